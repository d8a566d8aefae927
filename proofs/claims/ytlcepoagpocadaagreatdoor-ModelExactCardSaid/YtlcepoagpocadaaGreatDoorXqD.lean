import Derived.Test.YtlcepoagpocadaaGreatDoorXpR
import Derived.Test.YtlcepoagpocadaaGreatDoorMfH
set_option linter.unusedSimpArgs false
set_option linter.unusedVariables false
set_option maxRecDepth 100000
/- The document's model: how many chunks an order wants. -/
namespace Go.Proofs.YtlcepoagpocadaaGreatDoor
open Go Go.RowKit
theorem RowAt.at0 {w : World} {a : Option Addr} {vs : List Value} (h : RowAt w a vs) (hp : 0 < vs.length) : ∃ b o, a = some ⟨b, o, none⟩ ∧ b < w.heap.size ∧ ∀ i v, vs[i]? = some v → w.cell? ⟨b, o + i, none⟩ = some v := h hp
section
variable {F : Nat → Prop} {w : World} {p : Nat} {D : DP}
/-- An order in the document's form. -/
def rordV (o : OW) (a1 a2 : Option Addr) (c1 c2 : Nat) : Value := .agg #[.int .i64 ((o.k : Int) + 1), .slice a1 o.ns.length c1, .slice a2 o.ts.length c2]
theorem want_other {S : MS} {k : Nat} {ns : List Int} {ts : List (List UInt8)} (h7 : k ≠ 7) (h8 : k ≠ 8) : wantS S k ns ts = 0 := by
  unfold wantS
  split
  · exact absurd rfl h7
  · exact absurd rfl h8
  · rfl
set_option maxHeartbeats 16000000 in
theorem rwants_other (w : World) (o : OW) (a1 a2 : Option Addr) (c1 c2 : Nat) (h7 : o.k ≠ 7) (h8 : o.k ≠ 8) (h15 : o.k < 15) :
    Calls Tryz.prog 19 #[bp p, rordV o a1 a2 c1 c2] w fun e w' => e = .returned (.int .i64 (wantS (toMS D) o.k o.ns o.ts : Int)) ∧ Same w w' := by
  refine opq fun R HR => ?_
  rw [want_other h7 h8] at HR
  have q7 : (((o.k : Int) + 1) == 8) = false := by simp; omega
  have q8 : (((o.k : Int) + 1) == 9) = false := by simp; omega
  unfold bp rordV
  generalize o.ns.length = n1 at *
  generalize o.ts.length = n2 at *
  generalize (o.k : Int) + 1 = kk at *
  go_enter Tryz.func19, Tryz.ntmps19
  go_wp2_with fail
  go_big_quiet (fail)
  go_wp2_with fail
  go_big_quiet (fail)
  go_wp2_with fail
  exact HR.out _ _ ⟨rfl, (((Mod.refl (fun _ => False) w).alloc _).drewN _).drewN _⟩
theorem drange_zero (hO : DOk D) {id x n : Int} (h : rangeS (toMS D) id x n = 0) : ∃ (i : Nat) (v : DV) (a m sz : Nat), D.vols[i]? = some v ∧ v.id = id ∧ x = (a : Int) ∧ n = (m : Int) ∧ 1 ≤ m ∧ m ≤ 16 ∧ v.size = (sz : Int) ∧ a + m ≤ sz * D.k ∧ findV (toMS D) id = some (toVo v) := by
  unfold rangeS at h
  cases hf : findV (toMS D) id with
  | none => rw [hf] at h; cases h
  | some u =>
    rw [hf] at h
    dsimp only at h
    obtain ⟨h1, h2⟩ := findV_mem hf
    obtain ⟨v, hv, rfl⟩ := List.mem_map.1 h1
    obtain ⟨i, hi⟩ := List.mem_iff_getElem?.1 hv
    have hk1 := hO.k1
    have hk8 := hO.k8
    have hsz := hO.sizes v hv
    split at h
    · cases h
    · rename_i q1
      split at h
      · cases h
      · rename_i q2
        change ¬(x < 0 ∨ n < 1 ∨ 2 * (D.k : Int) < n) at q1
        change ¬(v.size * (D.k : Int) < x ∨ v.size * (D.k : Int) - x < n) at q2
        obtain ⟨sz, hs⟩ : ∃ sz : Nat, v.size = (sz : Int) := ⟨v.size.toNat, by omega⟩
        rw [hs] at q2
        have e : (sz : Int) * (D.k : Int) = ((sz * D.k : Nat) : Int) := by simp
        rw [e] at q2
        refine ⟨i, v, x.toNat, n.toNat, sz, hi, h2, by omega, by omega, by omega, by omega, hs, by omega, rfl⟩
theorem RowAt.three {w : World} {a : Option Addr} {x y z : Int} (h : RowAt w a ([x, y, z].map (Value.int .i64))) : ∃ b o, a = some ⟨b, o, none⟩ ∧ b < w.heap.size ∧ w.cell? ⟨b, o, none⟩ = some (.int .i64 x) ∧ w.cell? ⟨b, o + 1, none⟩ = some (.int .i64 y) ∧ w.cell? ⟨b, o + 2, none⟩ = some (.int .i64 z) := by
  obtain ⟨b, o, ha, hb, hc⟩ := h (by simp)
  exact ⟨b, o, ha, hb, hc 0 _ rfl, hc 1 _ rfl, hc 2 _ rfl⟩
theorem RowAt.two {w : World} {a : Option Addr} {x y : Int} (h : RowAt w a ([x, y].map (Value.int .i64))) : ∃ b o, a = some ⟨b, o, none⟩ ∧ b < w.heap.size ∧ w.cell? ⟨b, o, none⟩ = some (.int .i64 x) ∧ w.cell? ⟨b, o + 1, none⟩ = some (.int .i64 y) := by
  obtain ⟨b, o, ha, hb, hc⟩ := h (by simp)
  exact ⟨b, o, ha, hb, hc 0 _ rfl, hc 1 _ rfl⟩
theorem RowAt.oneT {w : World} {a : Option Addr} {t : List UInt8} (h : RowAt w a ([t].map strV)) : ∃ b o, a = some ⟨b, o, none⟩ ∧ b < w.heap.size ∧ w.cell? ⟨b, o, none⟩ = some (strV t) := by
  obtain ⟨b, o, ha, hb, hc⟩ := h (by simp)
  exact ⟨b, o, ha, hb, hc 0 _ rfl⟩
set_option maxHeartbeats 16000000 in
theorem rwants_disc (h : Dq F w p D) (hB : D.vols.length ≤ 1000) (n0 n1 n2 : Int) (ts : List (List UInt8)) (a1 a2 : Option Addr) (c1 c2 : Nat) (h0 : J64 n0) (h1 : J64 n1) (h2 : J64 n2) (hr : RowAt w a1 ([n0, n1, n2].map (Value.int .i64))) :
    Calls Tryz.prog 19 #[bp p, rordV ⟨8, [n0, n1, n2], ts⟩ a1 a2 c1 c2] w fun e w' => e = .returned (.int .i64 (wantS (toMS D) 8 [n0, n1, n2] ts : Int)) ∧ Same w w' := by
  refine opq fun R HR => ?_
  have HD := Lib.hid h
  obtain ⟨b1, o1, rfl, hb1, r0, r1, r2⟩ := hr.three
  have HRG := Lib.hid (fun W (M : Same w W) => drange_any (h.same M) (by omega) n0 n1 n2 ⟨h1.1, by have := h1.2; omega⟩ ⟨h2.1, by have := h2.2; omega⟩)
  have HWT := Lib.hid (show wantS (toMS D) 8 [n0, n1, n2] ts = (match findV (toMS D) n0 with | none => 0 | some v => if rangeS (toMS D) n0 n1 n2 = 0 then ((rangeP (toMS D).k n1.toNat n2.toNat).filter fun p => !wholeS (toMS D).k n1.toNat n2.toNat p && (getL (p : Int) v.pl).isSome && needS (toMS D) v p).length else 0) from rfl)
  have BE := Lib.hid (Blk.new w #[.int .i64 9, .slice (some ⟨b1, o1, none⟩) 3 c1, .slice a2 ts.length c2] 64)
  have JE := Lib.hid (show Same w (w.alloc (.cells #[.int .i64 9, .slice (some ⟨b1, o1, none⟩) 3 c1, .slice a2 ts.length c2] 64)) from (Mod.refl _ _).alloc _)
  have HR0 := Lib.hid (show w.cell? ⟨b1, o1, none⟩ = some (.int .i64 n0) ∧ w.cell? ⟨b1, o1 + 1, none⟩ = some (.int .i64 n1) ∧ w.cell? ⟨b1, o1 + 2, none⟩ = some (.int .i64 n2) from ⟨r0, r1, r2⟩)
  unfold bp rordV
  unfold bp at HRG
  generalize ts.length = nt at *
  obtain ⟨rg, hrg⟩ : ∃ rg, rangeS (toMS D) n0 n1 n2 = rg := ⟨_, rfl⟩
  rw [hrg] at HRG HWT
  have HRGE := Lib.hid hrg
  clear h hr r0 r1 r2 hrg
  show Calls Tryz.prog 19 #[_, .agg #[.int .i64 9, .slice (some ⟨b1, o1, none⟩) 3 c1, .slice a2 nt c2]] w R
  go_enter Tryz.func19, Tryz.ntmps19
  go_wp2_with fail
  go_big_quiet (fail)
  obtain ⟨E, hE⟩ : ∃ E, w.heap.size = E := ⟨_, rfl⟩
  rw [hE] at BE ⊢
  obtain ⟨w2, hw2⟩ : ∃ w2, (w.alloc (.cells #[.int .i64 9, .slice (some ⟨b1, o1, none⟩) 3 c1, .slice a2 nt c2] 64)).drewN nq = w2 := ⟨_, rfl⟩
  rw [hw2]
  have J2 := Lib.hid (show Same w w2 by rw [← hw2]; exact JE.out.drewN nq)
  have B2 := Lib.hid (show Blk w2 E #[.int .i64 9, .slice (some ⟨b1, o1, none⟩) 3 c1, .slice a2 nt c2] by rw [← hw2]; exact BE.out.mod ((Mod.refl (fun _ => False) _).drewN nq) (fun q => q))
  clear hw2 JE BE
  have HS := Lib.hid (show ∀ W, Same w2 W → (W.cell? ⟨E, 0, none⟩ = some (.int .i64 9) ∧ W.cell? ⟨E, 1, none⟩ = some (.slice (some ⟨b1, o1, none⟩) 3 c1) ∧ W.cell? ⟨b1, o1, none⟩ = some (.int .i64 n0) ∧ W.cell? ⟨b1, o1 + 1, none⟩ = some (.int .i64 n1) ∧ W.cell? ⟨b1, o1 + 2, none⟩ = some (.int .i64 n2)) from fun W M => by
    have hl := Nat.lt_of_lt_of_le hb1 J2.out.size
    exact ⟨((B2.out.mod M (fun q => q)).cell 0), ((B2.out.mod M (fun q => q)).cell 1), (M.cell hl (fun q => q) _).trans ((J2.out.cell hb1 (fun q => q) _).trans HR0.out.1), (M.cell hl (fun q => q) _).trans ((J2.out.cell hb1 (fun q => q) _).trans HR0.out.2.1), (M.cell hl (fun q => q) _).trans ((J2.out.cell hb1 (fun q => q) _).trans HR0.out.2.2)⟩)
  have hS2 := HS.out w2 (Mod.refl _ _)
  have SC : (fun W : World => W.cell? ⟨E, 0, none⟩ = some (.int .i64 9) ∧ W.cell? ⟨E, 1, none⟩ = some (.slice (some ⟨b1, o1, none⟩) 3 c1) ∧ W.cell? ⟨b1, o1, none⟩ = some (.int .i64 n0) ∧ W.cell? ⟨b1, o1 + 1, none⟩ = some (.int .i64 n1) ∧ W.cell? ⟨b1, o1 + 2, none⟩ = some (.int .i64 n2)) w2.drew := HS.out _ ((Mod.refl _ _).drew)
  go_wp2_with fail
  go_region_held3 (fun W => W.cell? ⟨E, 0, none⟩ = some (.int .i64 9) ∧ W.cell? ⟨E, 1, none⟩ = some (.slice (some ⟨b1, o1, none⟩) 3 c1) ∧ W.cell? ⟨b1, o1, none⟩ = some (.int .i64 n0) ∧ W.cell? ⟨b1, o1 + 1, none⟩ = some (.int .i64 n1) ∧ W.cell? ⟨b1, o1 + 2, none⟩ = some (.int .i64 n2)) (first | exact hS2 | assumption | exact HS.out _ ((Mod.refl _ _).drew) | exact HS.out _ JA.out) ((
    first
    | (go_at_call 49; refine (HRG.out _ (J2.out.drew)).mono ?_; rintro e w3 ⟨rfl, M⟩; have JA := Lib.hid (show Same w2 w3 from ((Mod.refl _ w2).drew).same M); clear M)))
  by_cases hz : rg = 0
  · subst hz
    obtain ⟨i, v, a, m, sz, e1, e2, rfl, rfl, e5, e6, e7, e8, e9⟩ := drange_zero HD.out.1 HRGE.out
    have HW2 := Lib.hid (show wantS (toMS D) 8 [n0, (a : Int), (m : Int)] ts = wntD D v true a m (a / D.k) ((a + m - 1) / D.k + 1 - a / D.k) by
      rw [HWT.out, e9]
      dsimp only
      rw [if_pos rfl, Int.toNat_natCast, Int.toNat_natCast]
      exact wnt_disc (List.mem_of_getElem? e1) a m)
    rw [HW2.out] at HR
    have HWN := Lib.hid (fun W (M : Same w W) => dwants_any (HD.out.same M) (by omega) e1 true a m e5 e6 e7 e8)
    rw [e2] at HWN
    unfold bp at HWN
    have J3 := Lib.hid (J2.out.same JA.out)
    have hS3 := HS.out w3 JA.out
    have HS3 := Lib.hid (show ∀ W, Same w3 W → _ from fun W M => HS.out W (JA.out.same M))
    clear e1 e2 e5 e6 e7 e8 e9 hS2 SC
    have hb : ((0 : Int) == 0) = true := rfl
    go_wp2_with fail
    go_region_held3 (fun W => W.cell? ⟨E, 0, none⟩ = some (.int .i64 9) ∧ W.cell? ⟨E, 1, none⟩ = some (.slice (some ⟨b1, o1, none⟩) 3 c1) ∧ W.cell? ⟨b1, o1, none⟩ = some (.int .i64 n0) ∧ W.cell? ⟨b1, o1 + 1, none⟩ = some (.int .i64 (a : Int)) ∧ W.cell? ⟨b1, o1 + 2, none⟩ = some (.int .i64 (m : Int))) (first | exact hS3 | assumption | exact HS3.out _ ((Mod.refl _ _).drew) | exact HS3.out _ JB.out) ((
      first
      | (go_at_call 50; refine (HWN.out _ (J3.out.drew)).mono ?_; rintro e w4 ⟨rfl, M⟩; have JB := Lib.hid (show Same w3 w4 from ((Mod.refl _ w3).drew).same M); clear M)))
    go_wp2_with fail
    exact HR.out _ _ ⟨rfl, J3.out.same JB.out⟩
  · have hb : (rg == 0) = false := by simpa using hz
    have HW2 := Lib.hid (show wantS (toMS D) 8 [n0, n1, n2] ts = 0 by
      rw [HWT.out]
      split
      · rfl
      · rw [if_neg hz])
    rw [HW2.out] at HR
    go_wp2_with fail
    exact HR.out _ _ ⟨rfl, J2.out.same JA.out⟩
set_option maxHeartbeats 16000000 in
theorem rwants_write (h : Dq F w p D) (hB : D.vols.length ≤ 1000) (n0 n1 : Int) (t : List UInt8) (a1 a2 : Option Addr) (c1 c2 : Nat) (h0 : J64 n0) (h1 : J64 n1) (ht : t.length ≤ 512) (hr : RowAt w a1 ([n0, n1].map (Value.int .i64))) (hr2 : RowAt w a2 ([t].map strV)) :
    Calls Tryz.prog 19 #[bp p, rordV ⟨7, [n0, n1], [t]⟩ a1 a2 c1 c2] w fun e w' => e = .returned (.int .i64 (wantS (toMS D) 7 [n0, n1] [t] : Int)) ∧ Same w w' := by
  refine opq fun R HR => ?_
  have HD := Lib.hid h
  obtain ⟨b1, o1, rfl, hb1, r0, r1⟩ := hr.two
  obtain ⟨b2, o2, rfl, hb2, s0⟩ := hr2.oneT
  have HWT := Lib.hid (show wantS (toMS D) 7 [n0, n1] [t] = (match findV (toMS D) n0 with | none => 0 | some v => if writeE (toMS D) n0 n1 t = 0 then ((rangeP (toMS D).k n1.toNat (t.length / 16)).filter fun p => needS (toMS D) v p).length else 0) from rfl)
  have HWE := Lib.hid (show writeE (toMS D) n0 n1 t = (match findV (toMS D) n0 with | none => 7 | some _ => if t.length % 16 ≠ 0 then 1 else rangeS (toMS D) n0 n1 ((t.length / 16 : Nat) : Int)) from rfl)
  have BE := Lib.hid (Blk.new w #[.int .i64 8, .slice (some ⟨b1, o1, none⟩) 2 c1, .slice (some ⟨b2, o2, none⟩) 1 c2] 64)
  have JE := Lib.hid (show Same w (w.alloc (.cells #[.int .i64 8, .slice (some ⟨b1, o1, none⟩) 2 c1, .slice (some ⟨b2, o2, none⟩) 1 c2] 64)) from (Mod.refl _ _).alloc _)
  have HR0 := Lib.hid (show w.cell? ⟨b1, o1, none⟩ = some (.int .i64 n0) ∧ w.cell? ⟨b1, o1 + 1, none⟩ = some (.int .i64 n1) ∧ w.cell? ⟨b2, o2, none⟩ = some (.string ⟨t.toArray⟩) from ⟨r0, r1, s0⟩)
  have hbs := bytes_size t
  obtain ⟨T, hT⟩ : ∃ T : ByteArray, (⟨t.toArray⟩ : ByteArray) = T := ⟨_, rfl⟩
  rw [hT] at HR0 hbs
  obtain ⟨L, hL⟩ : ∃ L, t.length = L := ⟨_, rfl⟩
  rw [hL] at HWT HWE hbs ht
  unfold bp rordV
  clear h hr hr2 r0 r1 s0 hT hL
  show Calls Tryz.prog 19 #[_, .agg #[.int .i64 8, .slice (some ⟨b1, o1, none⟩) 2 c1, .slice (some ⟨b2, o2, none⟩) 1 c2]] w R
  by_cases hL16 : L % 16 = 0
  · obtain ⟨m, rfl⟩ : ∃ m, L = 16 * m := ⟨L / 16, by omega⟩
    have hdv : 16 * m / 16 = m := by omega
    rw [hdv] at HWT HWE
    have HRG := Lib.hid (fun W (M : Same w W) => drange_any (HD.out.same M) (by omega) n0 n1 (m : Int) ⟨h1.1, by have := h1.2; omega⟩ ⟨by omega, by omega⟩)
    unfold bp at HRG
    obtain ⟨rg, hrg⟩ : ∃ rg, rangeS (toMS D) n0 n1 (m : Int) = rg := ⟨_, rfl⟩
    rw [hrg] at HRG HWE
    rw [if_neg (by rw [hL16]; simp)] at HWE
    have HRGE := Lib.hid hrg
    have q1 : (16 * (m : Int)).tdiv 16 = (m : Int) := by rw [Int.tdiv_eq_ediv_of_nonneg (by omega)]; omega
    have q2 : (16 * (m : Int)).tmod 16 = 0 := by rw [Int.tmod_eq_emod_of_nonneg (by omega)]; omega
    have q3 : (((16 * m : Nat) : Int)).tdiv 16 = (m : Int) := by rw [Int.tdiv_eq_ediv_of_nonneg (by omega)]; omega
    have q4 : (((16 * m : Nat) : Int)).tmod 16 = 0 := by rw [Int.tmod_eq_emod_of_nonneg (by omega)]; omega
    have q5 : IntKind.i64.wrap (m : Int) = (m : Int) := IntWalk.i64_in _ (by omega)
    clear hrg
    go_enter Tryz.func19, Tryz.ntmps19
    go_wp2_with fail
    obtain ⟨E, hE⟩ : ∃ E, w.heap.size = E := ⟨_, rfl⟩
    rw [hE] at BE ⊢
    obtain ⟨w2, hw2⟩ : ∃ w2, (w.alloc (.cells #[.int .i64 8, .slice (some ⟨b1, o1, none⟩) 2 c1, .slice (some ⟨b2, o2, none⟩) 1 c2] 64)) = w2 := ⟨_, rfl⟩
    rw [hw2] at BE JE ⊢
    have HS := Lib.hid (show ∀ W, Same w2 W → (W.cell? ⟨E, 0, none⟩ = some (.int .i64 8) ∧ W.cell? ⟨E, 1, none⟩ = some (.slice (some ⟨b1, o1, none⟩) 2 c1) ∧ W.cell? ⟨E, 2, none⟩ = some (.slice (some ⟨b2, o2, none⟩) 1 c2) ∧ W.cell? ⟨b1, o1, none⟩ = some (.int .i64 n0) ∧ W.cell? ⟨b1, o1 + 1, none⟩ = some (.int .i64 n1) ∧ W.cell? ⟨b2, o2, none⟩ = some (.string T)) from fun W M => by
      have hl := Nat.lt_of_lt_of_le hb1 JE.out.size
      have hl2 := Nat.lt_of_lt_of_le hb2 JE.out.size
      exact ⟨((BE.out.mod M (fun q => q)).cell 0), ((BE.out.mod M (fun q => q)).cell 1), ((BE.out.mod M (fun q => q)).cell 2), (M.cell hl (fun q => q) _).trans ((JE.out.cell hb1 (fun q => q) _).trans HR0.out.1), (M.cell hl (fun q => q) _).trans ((JE.out.cell hb1 (fun q => q) _).trans HR0.out.2.1), (M.cell hl2 (fun q => q) _).trans ((JE.out.cell hb2 (fun q => q) _).trans HR0.out.2.2)⟩)
    have hS2 := HS.out w2 (Mod.refl _ _)
    clear hw2
    go_region_held3 (fun W => W.cell? ⟨E, 0, none⟩ = some (.int .i64 8) ∧ W.cell? ⟨E, 1, none⟩ = some (.slice (some ⟨b1, o1, none⟩) 2 c1) ∧ W.cell? ⟨E, 2, none⟩ = some (.slice (some ⟨b2, o2, none⟩) 1 c2) ∧ W.cell? ⟨b1, o1, none⟩ = some (.int .i64 n0) ∧ W.cell? ⟨b1, o1 + 1, none⟩ = some (.int .i64 n1) ∧ W.cell? ⟨b2, o2, none⟩ = some (.string T)) (first | exact hS2 | assumption | exact HS.out _ ((Mod.refl _ _).drew) | exact HS.out _ JA.out) ((
      first
      | (go_at_call 49; refine (HRG.out _ (JE.out.drew)).mono ?_; rintro e w3 ⟨rfl, M⟩; have JA := Lib.hid (show Same w2 w3 from ((Mod.refl _ w2).drew).same M); clear M)))
    by_cases hz : rg = 0
    · subst hz
      obtain ⟨i, v, a, m', sz, e1, e2, rfl, e4, e5, e6, e7, e8, e9⟩ := drange_zero HD.out.1 HRGE.out
      obtain rfl : m = m' := by omega
      have HW2 := Lib.hid (show wantS (toMS D) 7 [n0, (a : Int)] [t] = wntD D v false a m (a / D.k) ((a + m - 1) / D.k + 1 - a / D.k) by
        rw [HWT.out, HWE.out, e9]
        dsimp only
        rw [if_pos rfl, Int.toNat_natCast]
        exact wnt_write (List.mem_of_getElem? e1) a m)
      rw [HW2.out] at HR
      have HWN := Lib.hid (fun W (M : Same w W) => dwants_any (HD.out.same M) (by omega) e1 false a m e5 e6 e7 e8)
      rw [e2] at HWN
      unfold bp at HWN
      have J3 := Lib.hid (JE.out.same JA.out)
      have hS3 := HS.out w3 JA.out
      have HS3 := Lib.hid (show ∀ W, Same w3 W → _ from fun W M => HS.out W (JA.out.same M))
      clear e1 e2 e4 e5 e6 e7 e8 e9 hS2
      have hb : ((0 : Int) == 0) = true := rfl
      go_wp2_with fail
      go_region_held3 (fun W => W.cell? ⟨E, 0, none⟩ = some (.int .i64 8) ∧ W.cell? ⟨E, 1, none⟩ = some (.slice (some ⟨b1, o1, none⟩) 2 c1) ∧ W.cell? ⟨E, 2, none⟩ = some (.slice (some ⟨b2, o2, none⟩) 1 c2) ∧ W.cell? ⟨b1, o1, none⟩ = some (.int .i64 n0) ∧ W.cell? ⟨b1, o1 + 1, none⟩ = some (.int .i64 (a : Int)) ∧ W.cell? ⟨b2, o2, none⟩ = some (.string T)) (first | exact hS3 | assumption | exact HS3.out _ ((Mod.refl _ _).drew) | exact HS3.out _ JB.out) ((
        first
        | (go_at_call 50; refine (HWN.out _ (J3.out.drew)).mono ?_; rintro e w4 ⟨rfl, M⟩; have JB := Lib.hid (show Same w3 w4 from ((Mod.refl _ w3).drew).same M); clear M)))
      go_wp2_with fail
      exact HR.out _ _ ⟨rfl, J3.out.same JB.out⟩
    · have hb : (rg == 0) = false := by simpa using hz
      have HW2 := Lib.hid (show wantS (toMS D) 7 [n0, n1] [t] = 0 by
        rw [HWT.out, HWE.out]
        cases findV (toMS D) n0 with
        | none => rfl
        | some v => dsimp only; rw [if_neg hz])
      rw [HW2.out] at HR
      have k0 := (HS.out w3 JA.out).1
      have kel : E < w3.heap.size := Nat.lt_of_lt_of_le BE.out.lt JA.out.size
      clear hS2
      go_wp2_with fail
      go_big_quiet (fail)
      go_wp2_with fail
      exact HR.out _ _ ⟨rfl, (JE.out.same JA.out).drewN _⟩
  · have HW2 := Lib.hid (show wantS (toMS D) 7 [n0, n1] [t] = 0 by
      rw [HWT.out, HWE.out]
      cases findV (toMS D) n0 with
      | none => rfl
      | some v => dsimp only; rw [if_pos hL16, if_neg (by decide)])
    rw [HW2.out] at HR
    obtain ⟨q, r, hr16, hqr⟩ : ∃ q r, r < 16 ∧ L = 16 * q + r := ⟨L / 16, L % 16, by omega, by omega⟩
    have hr0 : r ≠ 0 := by omega
    have q2 : ((L : Int)).tmod 16 = (r : Int) := by rw [Int.tmod_eq_emod_of_nonneg (by omega)]; omega
    have q5 : IntKind.i64.wrap (r : Int) = (r : Int) := IntWalk.i64_in _ (by omega)
    have q6 : ((r : Int) == 0) = false := by simpa using hr0
    have HRR := Lib.hid HR0.out
    obtain ⟨z0, z1, z2⟩ := HR0.out
    have K2 := Lib.hid (fun W (M : Same w W) => (M.cell hb2 (fun q => q) o2).trans z2)
    have k2 := K2.out _ (JE.out)
    clear hqr z0 z1 z2 hL16
    go_enter Tryz.func19, Tryz.ntmps19
    go_wp2_with fail
    go_big_quiet (fail)
    go_wp2_with fail
    go_big_quiet (fail)
    go_wp2_with fail
    exact HR.out _ _ ⟨rfl, (JE.out.drewN _).drewN _⟩
end
end Go.Proofs.YtlcepoagpocadaaGreatDoor
set_option maxRecDepth 100000
/- The document's model: what an order's answer is; a row of numbers is laid behind another. -/
namespace Go.Proofs.YtlcepoagpocadaaGreatDoor
open Go Go.RowKit
theorem info3I : (Tryz.prog.info? 3).map (fun i => (i.zero, i.size, i.bytes)) = some (some (.int .i64 0), 1, 8) := by kernel_rfl
theorem run_append_owned_z {w : World} (base : Nat) (t ty e : TypeId) (i : TypeInfo) (size : Nat) (ht : Tryz.prog.underlying t = some (.slice e)) (hi : Tryz.prog.info? e = some i)
    (v : Value) (n c : Nat) (xs : List Value) (hown : w.ownsRow base e size v n xs) :
    (Builtin.append_ #[t, t] ty #[v, .slice none 0 c]).run Tryz.prog w = .ok v w := by
  rcases hown.2 with ⟨rfl, rfl⟩ | ⟨g, cap, cur, rfl, _, _, hnc, _⟩
  · simp [Builtin.append_, run_underlying ht, sizeOf, typeInfo, hi, Builtin.lenOf, Builtin.firstCells]
  · simp [Builtin.append_, run_underlying ht, sizeOf, typeInfo, hi, Builtin.lenOf, Builtin.firstCells, hnc, storeCells]
theorem wpList_append_in {w : World} {ops : Array Oper} {rest : List Oper} {o : Oper} {a : Act} {Q : Exit → Act → World → Prop} (hgd : Region.wanted o (yielded ops a.tmps) = true) (s x : Operand)
    (ho : o.op = .call { callee := .builtin .append, args := #[s, x], argTypes := #[62, 62] })
    (base : Nat) (v : Value) (n : Nat) (xs : List Value) (hs : a.eval s = v) (hown : w.ownsRow base 3 1 v n xs)
    (ad : Option Addr) (m c : Nat) (ns : List Int) (hm : ns.length = m) (hx : a.eval x = .slice ad m c) (hd : RowAt w ad (ns.map (Value.int .i64)))
    (h63 : n + m ≤ 1000000) (hbase : base ≤ w.heap.size)
    (h : ∀ v' w', w'.ownsRow base 3 1 v' (n + m) (xs ++ ns.map (Value.int .i64)) → w.grownBy w' v.ownBlock → wpList Tryz.prog ops Q rest (a.put o.dst v') w') : wpList Tryz.prog ops Q (o :: rest) a w := by
  subst hm
  obtain ⟨i0, hi, hz, hsize, hby⟩ := info_parts info3I
  refine wpList_step fun K hK => ?_
  rw [if_pos hgd]
  cases ad with
  | none =>
    have hn0 : ns = [] := by
      cases ns with
      | nil => rfl
      | cons y r =>
        obtain ⟨b, o, e, _⟩ := hd (by simp)
        cases e
    subst hn0
    have hrun := run_append_owned_z (w := w) base 62 o.type 3 i0 1 Tryz.underlying62 hi v n c xs hown
    unfold Oper.wp
    have hx' : a.eval x = .slice none 0 c := hx
    simp [execOp, ho, resolve, invoke, builtin, hs, hx', hrun, Result.andThen]
    exact hK _ _ (h v w (by simpa using hown) (World.grownBy.refl _ _))
  | some src =>
    refine wp_append_own w s x 62 ho base 3 i0 (.int .i64 0) 1 8 Tryz.underlying62 hi hz hsize hby rfl (by decide) v n xs hs hown src ns.length c (ns.map (Value.int .i64)) hx (by simp) (fun j u hj => ?_) (fun u hu => by obtain ⟨s, _, rfl⟩ := List.mem_map.1 hu; rfl) (by unfold maxLen; omega) (by omega) hbase (fun v' w' h1 h2 _ => hK _ _ (h v' w' h1 h2))
    have hjl : j < ns.length := by have := (List.getElem?_eq_some_iff.1 hj).1; simpa using this
    obtain ⟨b, o, e, hb, hc⟩ := hd (by simp; omega)
    cases e
    have e : Addr.add ⟨b, o, none⟩ j = ⟨b, o + j, none⟩ := Addr.add_mid b o j
    rw [e]
    exact hc j u hj
/-- What the document's model answers. -/
def RDo (F : Nat → Prop) (w : World) (p : Nat) (D : DP) (o : OW) (e : Ending) (w' : World) : Prop := ∃ (er : Int) (d : List UInt8) (tells : Bool) (D' : DP) (F' : Nat → Prop),
  e = .returned (.tuple #[.int .i64 er, .string ⟨d.toArray⟩, .bool tells]) ∧ DoR (toMS D) o.k o.ns o.ts er d tells (toMS D') ∧ Dq F' w' p D' ∧ (∀ i, F' i → F i ∨ w.heap.size ≤ i) ∧ Mod F w w' ∧
    D'.k = D.k ∧ D'.births ≤ D.births + 1 ∧ D.births ≤ D'.births ∧ D'.ch.length ≤ D.ch.length + 32
theorem row3_of {w : World} {B : Nat} {v : Value} {ns : List Int} {n : Nat} (hn : ns.length = n) (h : w.ownsRow B 3 1 v (n + 3) (ns.map (Value.int .i64) ++ [.int .i64 0, .int .i64 0, .int .i64 0])) : ∃ g c, v = .slice (some ⟨g, 0, none⟩) (n + 3) c ∧ B ≤ g ∧ g < w.heap.size ∧ w.cell? ⟨g, 0, none⟩ = some (.int .i64 (ns.getD 0 0)) ∧ w.cell? ⟨g, 1, none⟩ = some (.int .i64 (ns.getD 1 0)) ∧ w.cell? ⟨g, 2, none⟩ = some (.int .i64 (ns.getD 2 0)) := by
  subst hn
  obtain ⟨g, c, rfl, hb, _, hr⟩ := RowV.of_owns h (by omega)
  have key : ∀ i, i < 3 → w.cell? ⟨g, i, none⟩ = some (.int .i64 (ns.getD i 0)) := fun i hi => by
    rw [hr.cell i (by omega), List.getD_eq_getElem?_getD, List.getD_eq_getElem?_getD]
    by_cases q : i < ns.length
    · rw [List.getElem?_append_left (by simpa using q), List.getElem?_map, List.getElem?_eq_getElem q]; rfl
    · rw [List.getElem?_append_right (by simp; omega), List.getElem?_eq_none (l := ns) (by omega), List.length_map]
      rcases (show i - ns.length = 0 ∨ i - ns.length = 1 ∨ i - ns.length = 2 by omega) with e | e | e <;> rw [e] <;> rfl
  exact ⟨g, c, rfl, hb, hr.lt, key 0 (by decide), key 1 (by decide), key 2 (by decide)⟩
theorem one3_new (w : World) : ∀ (j : Nat) (u : Value), (([0, 0, 0] : List Int).map (Value.int .i64))[j]? = some u → (w.alloc (.cells #[.int .i64 0, .int .i64 0, .int .i64 0] 3)).cell? ⟨w.heap.size, j, none⟩ = some u := fun j u hu => by
  refine ((Blk.new w #[.int .i64 0, .int .i64 0, .int .i64 0] 3).cell j).trans ?_
  rw [← hu, show (#[Value.int .i64 0, Value.int .i64 0, Value.int .i64 0] : Array Value) = (([0, 0, 0] : List Int).map (Value.int .i64)).toArray from rfl, List.getElem?_toArray]
end Go.Proofs.YtlcepoagpocadaaGreatDoor
set_option maxRecDepth 100000
/- The document's model: what an order's answer is. -/
namespace Go.Proofs.YtlcepoagpocadaaGreatDoor
open Go Go.RowKit
section
variable {F : Nat → Prop} {w : World} {p : Nat} {D : DP}
set_option maxHeartbeats 16000000 in
theorem rdo_0 (h : Dq F w p D) (hB : D.vols.length ≤ 1000) (hC : D.ch.length ≤ 50000) (hb : 0 ≤ D.births ∧ D.births ≤ 100000) (n0 n1 : Int) (a1 a2 : Option Addr) (c1 c2 : Nat) (hn0 : J64 n0) (hn1 : J64 n1) (hr : RowAt w a1 (([n0, n1] : List Int).map (Value.int .i64))) (hr2 : RowAt w a2 (([] : List (List UInt8)).map strV)) :
    Calls Tryz.prog 21 #[bp p, rordV ⟨0, [n0, n1], []⟩ a1 a2 c1 c2] w fun e w' => RDo F w p D ⟨0, [n0, n1], []⟩ e w' := by
  refine opq fun R HR => ?_
  have HD := Lib.hid h
  have HRN := Lib.hid hr
  have HQ := Lib.hid (show ¬ (([] : List (List UInt8)).all (fun t => decide (t.length ≤ 512)) = false) by simp)
  have BE := Lib.hid (Blk.new w #[.int .i64 1, .slice a1 2 c1, .slice a2 0 c2] 64)
  have JE := Lib.hid (show Same w (w.alloc (.cells #[.int .i64 1, .slice a1 2 c1, .slice a2 0 c2] 64)) from (Mod.refl _ _).alloc _)
  unfold bp rordV
  clear h hr hr2
  show Calls Tryz.prog 21 #[_, .agg #[.int .i64 1, .slice a1 2 c1, .slice a2 0 c2]] w R
  go_enter Tryz.func21, Tryz.ntmps21
  go_wp2_with fail
  obtain ⟨E, hE⟩ : ∃ E, w.heap.size = E := ⟨_, rfl⟩
  rw [hE] at BE ⊢
  obtain ⟨w2, hw2⟩ : ∃ w2, (w.alloc (.cells #[.int .i64 1, .slice a1 2 c1, .slice a2 0 c2] 64)) = w2 := ⟨_, rfl⟩
  rw [hw2] at BE JE ⊢
  have e0 := BE.out.at_ (i := 0) _ rfl
  have e1 := BE.out.at_ (i := 1) _ rfl
  have e2 := BE.out.at_ (i := 2) _ rfl
  have hEl := BE.out.lt
  have HE := Lib.hid hE
  clear hw2 hE
  go_loopw [7] (fun ii wr => ∃ j : Nat, j ≤ 0 ∧ ii = .int .i64 j ∧ wr = w2) (fun ii _ => 0 - (intOf ii).toNat)
  case atStart => exact ⟨0, Nat.zero_le _, rfl, rfl⟩
  case round =>
    obtain ⟨j, hj, rfl, rfl⟩ := hrel
    obtain rfl : j = 0 := by omega
    have OE := Lib.hid (show (wr.alloc (.cells #[] 3)).ownsRow wr.heap.size 3 1 (.slice (some ⟨wr.heap.size, 0, none⟩) 0 0) 0 [] from ⟨rfl, .inr ⟨_, 0, #[], rfl, Nat.le_refl _, heap_new _ _, Nat.le_refl _, by unfold maxLen; omega, rfl, rfl⟩⟩)
    have HR1 := Lib.hid (show RowAt (wr.alloc (.cells #[] 3)) a1 (([n0, n1] : List Int).map (Value.int .i64)) from (HRN.out.same JE.out).same ((Mod.refl _ _).alloc _))
    go_upto_region 7 with (first | (at_builtin; refine wpList_append_in (by rfl) (.tmp 26) (.tmp 28) (by rfl) wr.heap.size _ 0 [] (by rfl) OE.out a1 2 c1 [n0, n1] (by rfl) (by rfl) HR1.out (by omega) (by simp) ?_; intro v3 w3 hown3 hgrow3; have J3 := Lib.hid (show Same wr w3 from ((Mod.refl (fun _ => False) wr).alloc _).grown hgrow3 (fun k hk hl => by have := owns_ge OE.out k hk; omega)); have K3 := Lib.hid hown3; have f0 := (J3.out.cell hEl (fun q => q) 0).trans e0; have hE3 := Nat.lt_of_lt_of_le hEl J3.out.size; have hs3 := J3.out.size; clear hown3 hgrow3) | (at_builtin; refine wpList_append_in (by rfl) (.tmp 29) (.tmp 30) (by rfl) wr.heap.size _ (0 + 2) _ (by rfl) (own_mod2 K3.out ((Mod.refl _ _).alloc _) (fun _ _ q => q)) (some ⟨w3.heap.size, 0, none⟩) 3 3 [0, 0, 0] (by rfl) (by rfl) (fun _ => ⟨w3.heap.size, 0, rfl, by simp, fun i u hu => by rw [Nat.zero_add]; exact (one3_new w3 i u hu)⟩) (by omega) (by simp; omega) ?_; intro v4 w4 hown4 hgrow4; have J4 := Lib.hid (show Same wr w4 from (J3.out.alloc _).grown hgrow4 (fun k hk hl => by have := owns_ge K3.out k hk; omega)); have K4 := Lib.hid hown4; have f00 := (J4.out.cell hEl (fun q => q) 0).trans e0; clear hown4 hgrow4))
    obtain ⟨gn, cn, rfl, hgn, hgnl, m0, m1, m2⟩ := row3_of (ns := [n0, n1]) (n := 2) rfl (by have hh := K4.out; simp only [List.nil_append, Nat.zero_add] at hh; exact hh)
    change w4.cell? ⟨gn, 0, none⟩ = some (.int .i64 n0) at m0
    change w4.cell? ⟨gn, 1, none⟩ = some (.int .i64 n1) at m1
    change w4.cell? ⟨gn, 2, none⟩ = some (.int .i64 0) at m2
    have JW := Lib.hid (JE.out.same J4.out)
    have hE4 := Nat.lt_of_lt_of_le hEl J4.out.size
    have HD4 := Lib.hid (HD.out.same JW.out)
    have hs4 := JW.out.size
    have HFL := Lib.hid (show ∀ i, F i → i < w.heap.size from by obtain ⟨_, _, _, _, _, _, hx⟩ := HD.out; exact hx.fl)
    have hgF : ¬ F gn := fun z => by have := HFL.out gn z; have := JE.out.size; omega
    have hEF : ¬ F E := fun z => by have := HFL.out E z; have := HE.out; omega
    clear K3 K4 OE e0 e1 e2 f0 hE3 hs3 J3 HR1
    have CC := Lib.hid (fun W (M : Same w4 W) => dcreate_any (HD4.out.same M) hB hb n0 n1)
    unfold bp at CC
    have hS4 : (fun W : World => W.cell? ⟨gn, 0, none⟩ = some (.int .i64 n0) ∧ W.cell? ⟨gn, 1, none⟩ = some (.int .i64 n1)) w4 := ⟨m0, m1⟩
    have HS := Lib.hid (show ∀ W, Same w4 W → (fun W : World => W.cell? ⟨gn, 0, none⟩ = some (.int .i64 n0) ∧ W.cell? ⟨gn, 1, none⟩ = some (.int .i64 n1)) W from fun W M => ⟨(M.cell hgnl (fun q => q) _).trans m0, (M.cell hgnl (fun q => q) _).trans m1⟩)
    have HSM := Lib.hid (show ∀ W, Mod F w4.drew W → (fun W : World => W.cell? ⟨gn, 0, none⟩ = some (.int .i64 n0) ∧ W.cell? ⟨gn, 1, none⟩ = some (.int .i64 n1)) W from fun W M => ⟨(M.cell (w := w4.drew) hgnl hgF _).trans m0, (M.cell (w := w4.drew) hgnl hgF _).trans m1⟩)
    go_wp2_with fail
    go_region_held3 (fun W : World => W.cell? ⟨gn, 0, none⟩ = some (.int .i64 n0) ∧ W.cell? ⟨gn, 1, none⟩ = some (.int .i64 n1)) (first | exact hS4 | assumption | exact HS.out _ ((Mod.refl _ _).drew)) ((
      first
      | (go_at_call 60; refine (CC.out _ ((Mod.refl _ _).drew)).mono ?_; rintro e w5 ⟨er, D', F', rfl, hX, hD, hF, hM, hk, hb1, hb2, hch⟩; have HX := Lib.hid hX; have HDD := Lib.hid hD; have HFF := Lib.hid hF; have HMM := Lib.hid hM; have HKK := Lib.hid (show D'.k = D.k ∧ D'.births ≤ D.births + 1 ∧ D.births ≤ D'.births ∧ D'.ch = D.ch from ⟨hk, hb1, hb2, hch⟩); have hS5 := HSM.out _ hM; clear hX hD hF hM hk hb1 hb2 hch)))
    go_wp2_with fail
    have hX := HX.out
    exact HR.out _ _ ⟨er, [], false, D', F', rfl, (by unfold DoR; rw [if_neg HQ.out]; exact ⟨⟨0, 0, hX⟩, rfl, rfl⟩), HDD.out, fun y hy => (HFF.out y hy).imp (fun z => z) (fun z => Nat.le_trans hs4 z), (JW.out.drew.mono (fun _ _ q => q.elim)).then_ HMM.out (fun i _ q => q), HKK.out.1, HKK.out.2.1, HKK.out.2.2.1, by rw [HKK.out.2.2.2]; omega⟩

set_option maxHeartbeats 16000000 in
theorem rdo_1 (h : Dq F w p D) (hB : D.vols.length ≤ 1000) (hC : D.ch.length ≤ 50000) (hb : 0 ≤ D.births ∧ D.births ≤ 100000) (n0 : Int) (a1 a2 : Option Addr) (c1 c2 : Nat) (hn0 : J64 n0) (hr : RowAt w a1 (([n0] : List Int).map (Value.int .i64))) (hr2 : RowAt w a2 (([] : List (List UInt8)).map strV)) :
    Calls Tryz.prog 21 #[bp p, rordV ⟨1, [n0], []⟩ a1 a2 c1 c2] w fun e w' => RDo F w p D ⟨1, [n0], []⟩ e w' := by
  refine opq fun R HR => ?_
  have HD := Lib.hid h
  have HRN := Lib.hid hr
  have HQ := Lib.hid (show ¬ (([] : List (List UInt8)).all (fun t => decide (t.length ≤ 512)) = false) by simp)
  have BE := Lib.hid (Blk.new w #[.int .i64 2, .slice a1 1 c1, .slice a2 0 c2] 64)
  have JE := Lib.hid (show Same w (w.alloc (.cells #[.int .i64 2, .slice a1 1 c1, .slice a2 0 c2] 64)) from (Mod.refl _ _).alloc _)
  unfold bp rordV
  clear h hr hr2
  show Calls Tryz.prog 21 #[_, .agg #[.int .i64 2, .slice a1 1 c1, .slice a2 0 c2]] w R
  go_enter Tryz.func21, Tryz.ntmps21
  go_wp2_with fail
  obtain ⟨E, hE⟩ : ∃ E, w.heap.size = E := ⟨_, rfl⟩
  rw [hE] at BE ⊢
  obtain ⟨w2, hw2⟩ : ∃ w2, (w.alloc (.cells #[.int .i64 2, .slice a1 1 c1, .slice a2 0 c2] 64)) = w2 := ⟨_, rfl⟩
  rw [hw2] at BE JE ⊢
  have e0 := BE.out.at_ (i := 0) _ rfl
  have e1 := BE.out.at_ (i := 1) _ rfl
  have e2 := BE.out.at_ (i := 2) _ rfl
  have hEl := BE.out.lt
  have HE := Lib.hid hE
  clear hw2 hE
  go_loopw [7] (fun ii wr => ∃ j : Nat, j ≤ 0 ∧ ii = .int .i64 j ∧ wr = w2) (fun ii _ => 0 - (intOf ii).toNat)
  case atStart => exact ⟨0, Nat.zero_le _, rfl, rfl⟩
  case round =>
    obtain ⟨j, hj, rfl, rfl⟩ := hrel
    obtain rfl : j = 0 := by omega
    have OE := Lib.hid (show (wr.alloc (.cells #[] 3)).ownsRow wr.heap.size 3 1 (.slice (some ⟨wr.heap.size, 0, none⟩) 0 0) 0 [] from ⟨rfl, .inr ⟨_, 0, #[], rfl, Nat.le_refl _, heap_new _ _, Nat.le_refl _, by unfold maxLen; omega, rfl, rfl⟩⟩)
    have HR1 := Lib.hid (show RowAt (wr.alloc (.cells #[] 3)) a1 (([n0] : List Int).map (Value.int .i64)) from (HRN.out.same JE.out).same ((Mod.refl _ _).alloc _))
    go_upto_region 7 with (first | (at_builtin; refine wpList_append_in (by rfl) (.tmp 26) (.tmp 28) (by rfl) wr.heap.size _ 0 [] (by rfl) OE.out a1 1 c1 [n0] (by rfl) (by rfl) HR1.out (by omega) (by simp) ?_; intro v3 w3 hown3 hgrow3; have J3 := Lib.hid (show Same wr w3 from ((Mod.refl (fun _ => False) wr).alloc _).grown hgrow3 (fun k hk hl => by have := owns_ge OE.out k hk; omega)); have K3 := Lib.hid hown3; have f0 := (J3.out.cell hEl (fun q => q) 0).trans e0; have hE3 := Nat.lt_of_lt_of_le hEl J3.out.size; have hs3 := J3.out.size; clear hown3 hgrow3) | (at_builtin; refine wpList_append_in (by rfl) (.tmp 29) (.tmp 30) (by rfl) wr.heap.size _ (0 + 1) _ (by rfl) (own_mod2 K3.out ((Mod.refl _ _).alloc _) (fun _ _ q => q)) (some ⟨w3.heap.size, 0, none⟩) 3 3 [0, 0, 0] (by rfl) (by rfl) (fun _ => ⟨w3.heap.size, 0, rfl, by simp, fun i u hu => by rw [Nat.zero_add]; exact (one3_new w3 i u hu)⟩) (by omega) (by simp; omega) ?_; intro v4 w4 hown4 hgrow4; have J4 := Lib.hid (show Same wr w4 from (J3.out.alloc _).grown hgrow4 (fun k hk hl => by have := owns_ge K3.out k hk; omega)); have K4 := Lib.hid hown4; have f00 := (J4.out.cell hEl (fun q => q) 0).trans e0; clear hown4 hgrow4))
    obtain ⟨gn, cn, rfl, hgn, hgnl, m0, m1, m2⟩ := row3_of (ns := [n0]) (n := 1) rfl (by have hh := K4.out; simp only [List.nil_append, Nat.zero_add] at hh; exact hh)
    change w4.cell? ⟨gn, 0, none⟩ = some (.int .i64 n0) at m0
    change w4.cell? ⟨gn, 1, none⟩ = some (.int .i64 0) at m1
    change w4.cell? ⟨gn, 2, none⟩ = some (.int .i64 0) at m2
    have JW := Lib.hid (JE.out.same J4.out)
    have hE4 := Nat.lt_of_lt_of_le hEl J4.out.size
    have HD4 := Lib.hid (HD.out.same JW.out)
    have hs4 := JW.out.size
    have HFL := Lib.hid (show ∀ i, F i → i < w.heap.size from by obtain ⟨_, _, _, _, _, _, hx⟩ := HD.out; exact hx.fl)
    have hgF : ¬ F gn := fun z => by have := HFL.out gn z; have := JE.out.size; omega
    have hEF : ¬ F E := fun z => by have := HFL.out E z; have := HE.out; omega
    clear K3 K4 OE e0 e1 e2 f0 hE3 hs3 J3 HR1
    have CC := Lib.hid (fun W (M : Same w4 W) => ddelete_any (HD4.out.same M) hB n0)
    unfold bp at CC
    go_wp2_with fail
    refine (CC.out _ (Mod.refl _ _)).mono ?_
    rintro e w5 ⟨er, D', F', rfl, hX, hD, hF, hM, hk, hb1, hb2, hch⟩
    have HX := Lib.hid hX
    have HDD := Lib.hid hD
    have HFF := Lib.hid hF
    have HMM := Lib.hid hM
    have HKK := Lib.hid (show D'.k = D.k ∧ D'.births ≤ D.births + 1 ∧ D.births ≤ D'.births ∧ D'.ch = D.ch from ⟨hk, hb1, hb2, hch⟩)
    clear hX hD hF hM hk hb1 hb2 hch
    go_wp2_with fail
    have hX := HX.out
    exact HR.out _ _ ⟨er, [], false, D', F', rfl, (by unfold DoR; rw [if_neg HQ.out]; exact ⟨hX, rfl, rfl⟩), HDD.out, fun y hy => (HFF.out y hy).imp (fun z => z) (fun z => Nat.le_trans hs4 z), (JW.out.mono (fun _ _ q => q.elim)).then_ HMM.out (fun i _ q => q), HKK.out.1, HKK.out.2.1, HKK.out.2.2.1, by rw [HKK.out.2.2.2]; omega⟩

set_option maxHeartbeats 16000000 in
theorem rdo_2 (h : Dq F w p D) (hB : D.vols.length ≤ 1000) (hC : D.ch.length ≤ 50000) (hb : 0 ≤ D.births ∧ D.births ≤ 100000) (n0 n1 : Int) (a1 a2 : Option Addr) (c1 c2 : Nat) (hn0 : J64 n0) (hn1 : J64 n1) (hr : RowAt w a1 (([n0, n1] : List Int).map (Value.int .i64))) (hr2 : RowAt w a2 (([] : List (List UInt8)).map strV)) :
    Calls Tryz.prog 21 #[bp p, rordV ⟨2, [n0, n1], []⟩ a1 a2 c1 c2] w fun e w' => RDo F w p D ⟨2, [n0, n1], []⟩ e w' := by
  refine opq fun R HR => ?_
  have HD := Lib.hid h
  have HRN := Lib.hid hr
  have HQ := Lib.hid (show ¬ (([] : List (List UInt8)).all (fun t => decide (t.length ≤ 512)) = false) by simp)
  have BE := Lib.hid (Blk.new w #[.int .i64 3, .slice a1 2 c1, .slice a2 0 c2] 64)
  have JE := Lib.hid (show Same w (w.alloc (.cells #[.int .i64 3, .slice a1 2 c1, .slice a2 0 c2] 64)) from (Mod.refl _ _).alloc _)
  unfold bp rordV
  clear h hr hr2
  show Calls Tryz.prog 21 #[_, .agg #[.int .i64 3, .slice a1 2 c1, .slice a2 0 c2]] w R
  go_enter Tryz.func21, Tryz.ntmps21
  go_wp2_with fail
  obtain ⟨E, hE⟩ : ∃ E, w.heap.size = E := ⟨_, rfl⟩
  rw [hE] at BE ⊢
  obtain ⟨w2, hw2⟩ : ∃ w2, (w.alloc (.cells #[.int .i64 3, .slice a1 2 c1, .slice a2 0 c2] 64)) = w2 := ⟨_, rfl⟩
  rw [hw2] at BE JE ⊢
  have e0 := BE.out.at_ (i := 0) _ rfl
  have e1 := BE.out.at_ (i := 1) _ rfl
  have e2 := BE.out.at_ (i := 2) _ rfl
  have hEl := BE.out.lt
  have HE := Lib.hid hE
  clear hw2 hE
  go_loopw [7] (fun ii wr => ∃ j : Nat, j ≤ 0 ∧ ii = .int .i64 j ∧ wr = w2) (fun ii _ => 0 - (intOf ii).toNat)
  case atStart => exact ⟨0, Nat.zero_le _, rfl, rfl⟩
  case round =>
    obtain ⟨j, hj, rfl, rfl⟩ := hrel
    obtain rfl : j = 0 := by omega
    have OE := Lib.hid (show (wr.alloc (.cells #[] 3)).ownsRow wr.heap.size 3 1 (.slice (some ⟨wr.heap.size, 0, none⟩) 0 0) 0 [] from ⟨rfl, .inr ⟨_, 0, #[], rfl, Nat.le_refl _, heap_new _ _, Nat.le_refl _, by unfold maxLen; omega, rfl, rfl⟩⟩)
    have HR1 := Lib.hid (show RowAt (wr.alloc (.cells #[] 3)) a1 (([n0, n1] : List Int).map (Value.int .i64)) from (HRN.out.same JE.out).same ((Mod.refl _ _).alloc _))
    go_upto_region 7 with (first | (at_builtin; refine wpList_append_in (by rfl) (.tmp 26) (.tmp 28) (by rfl) wr.heap.size _ 0 [] (by rfl) OE.out a1 2 c1 [n0, n1] (by rfl) (by rfl) HR1.out (by omega) (by simp) ?_; intro v3 w3 hown3 hgrow3; have J3 := Lib.hid (show Same wr w3 from ((Mod.refl (fun _ => False) wr).alloc _).grown hgrow3 (fun k hk hl => by have := owns_ge OE.out k hk; omega)); have K3 := Lib.hid hown3; have f0 := (J3.out.cell hEl (fun q => q) 0).trans e0; have hE3 := Nat.lt_of_lt_of_le hEl J3.out.size; have hs3 := J3.out.size; clear hown3 hgrow3) | (at_builtin; refine wpList_append_in (by rfl) (.tmp 29) (.tmp 30) (by rfl) wr.heap.size _ (0 + 2) _ (by rfl) (own_mod2 K3.out ((Mod.refl _ _).alloc _) (fun _ _ q => q)) (some ⟨w3.heap.size, 0, none⟩) 3 3 [0, 0, 0] (by rfl) (by rfl) (fun _ => ⟨w3.heap.size, 0, rfl, by simp, fun i u hu => by rw [Nat.zero_add]; exact (one3_new w3 i u hu)⟩) (by omega) (by simp; omega) ?_; intro v4 w4 hown4 hgrow4; have J4 := Lib.hid (show Same wr w4 from (J3.out.alloc _).grown hgrow4 (fun k hk hl => by have := owns_ge K3.out k hk; omega)); have K4 := Lib.hid hown4; have f00 := (J4.out.cell hEl (fun q => q) 0).trans e0; clear hown4 hgrow4))
    obtain ⟨gn, cn, rfl, hgn, hgnl, m0, m1, m2⟩ := row3_of (ns := [n0, n1]) (n := 2) rfl (by have hh := K4.out; simp only [List.nil_append, Nat.zero_add] at hh; exact hh)
    change w4.cell? ⟨gn, 0, none⟩ = some (.int .i64 n0) at m0
    change w4.cell? ⟨gn, 1, none⟩ = some (.int .i64 n1) at m1
    change w4.cell? ⟨gn, 2, none⟩ = some (.int .i64 0) at m2
    have JW := Lib.hid (JE.out.same J4.out)
    have hE4 := Nat.lt_of_lt_of_le hEl J4.out.size
    have HD4 := Lib.hid (HD.out.same JW.out)
    have hs4 := JW.out.size
    have HFL := Lib.hid (show ∀ i, F i → i < w.heap.size from by obtain ⟨_, _, _, _, _, _, hx⟩ := HD.out; exact hx.fl)
    have hgF : ¬ F gn := fun z => by have := HFL.out gn z; have := JE.out.size; omega
    have hEF : ¬ F E := fun z => by have := HFL.out E z; have := HE.out; omega
    clear K3 K4 OE e0 e1 e2 f0 hE3 hs3 J3 HR1
    have CC := Lib.hid (fun W (M : Same w4 W) => dsnap_any (HD4.out.same M) hB hb n0 n1)
    unfold bp at CC
    have hS4 : (fun W : World => W.cell? ⟨gn, 0, none⟩ = some (.int .i64 n0) ∧ W.cell? ⟨gn, 1, none⟩ = some (.int .i64 n1)) w4 := ⟨m0, m1⟩
    have HS := Lib.hid (show ∀ W, Same w4 W → (fun W : World => W.cell? ⟨gn, 0, none⟩ = some (.int .i64 n0) ∧ W.cell? ⟨gn, 1, none⟩ = some (.int .i64 n1)) W from fun W M => ⟨(M.cell hgnl (fun q => q) _).trans m0, (M.cell hgnl (fun q => q) _).trans m1⟩)
    have HSM := Lib.hid (show ∀ W, Mod F w4.drew W → (fun W : World => W.cell? ⟨gn, 0, none⟩ = some (.int .i64 n0) ∧ W.cell? ⟨gn, 1, none⟩ = some (.int .i64 n1)) W from fun W M => ⟨(M.cell (w := w4.drew) hgnl hgF _).trans m0, (M.cell (w := w4.drew) hgnl hgF _).trans m1⟩)
    go_wp2_with fail
    go_region_held3 (fun W : World => W.cell? ⟨gn, 0, none⟩ = some (.int .i64 n0) ∧ W.cell? ⟨gn, 1, none⟩ = some (.int .i64 n1)) (first | exact hS4 | assumption | exact HS.out _ ((Mod.refl _ _).drew)) ((
      first
      | (go_at_call 62; refine (CC.out _ ((Mod.refl _ _).drew)).mono ?_; rintro e w5 ⟨er, D', F', rfl, hX, hD, hF, hM, hk, hb1, hb2, hch⟩; have HX := Lib.hid hX; have HDD := Lib.hid hD; have HFF := Lib.hid hF; have HMM := Lib.hid hM; have HKK := Lib.hid (show D'.k = D.k ∧ D'.births ≤ D.births + 1 ∧ D.births ≤ D'.births ∧ D'.ch = D.ch from ⟨hk, hb1, hb2, hch⟩); have hS5 := HSM.out _ hM; clear hX hD hF hM hk hb1 hb2 hch)))
    go_wp2_with fail
    have hX := HX.out
    exact HR.out _ _ ⟨er, [], false, D', F', rfl, (by unfold DoR; rw [if_neg HQ.out]; exact ⟨⟨0, 0, hX⟩, rfl, rfl⟩), HDD.out, fun y hy => (HFF.out y hy).imp (fun z => z) (fun z => Nat.le_trans hs4 z), (JW.out.drew.mono (fun _ _ q => q.elim)).then_ HMM.out (fun i _ q => q), HKK.out.1, HKK.out.2.1, HKK.out.2.2.1, by rw [HKK.out.2.2.2]; omega⟩

set_option maxHeartbeats 16000000 in
theorem rdo_3 (h : Dq F w p D) (hB : D.vols.length ≤ 1000) (hC : D.ch.length ≤ 50000) (hb : 0 ≤ D.births ∧ D.births ≤ 100000) (n0 n1 : Int) (a1 a2 : Option Addr) (c1 c2 : Nat) (hn0 : J64 n0) (hn1 : J64 n1) (hr : RowAt w a1 (([n0, n1] : List Int).map (Value.int .i64))) (hr2 : RowAt w a2 (([] : List (List UInt8)).map strV)) :
    Calls Tryz.prog 21 #[bp p, rordV ⟨3, [n0, n1], []⟩ a1 a2 c1 c2] w fun e w' => RDo F w p D ⟨3, [n0, n1], []⟩ e w' := by
  refine opq fun R HR => ?_
  have HD := Lib.hid h
  have HRN := Lib.hid hr
  have HQ := Lib.hid (show ¬ (([] : List (List UInt8)).all (fun t => decide (t.length ≤ 512)) = false) by simp)
  have BE := Lib.hid (Blk.new w #[.int .i64 4, .slice a1 2 c1, .slice a2 0 c2] 64)
  have JE := Lib.hid (show Same w (w.alloc (.cells #[.int .i64 4, .slice a1 2 c1, .slice a2 0 c2] 64)) from (Mod.refl _ _).alloc _)
  unfold bp rordV
  clear h hr hr2
  show Calls Tryz.prog 21 #[_, .agg #[.int .i64 4, .slice a1 2 c1, .slice a2 0 c2]] w R
  go_enter Tryz.func21, Tryz.ntmps21
  go_wp2_with fail
  obtain ⟨E, hE⟩ : ∃ E, w.heap.size = E := ⟨_, rfl⟩
  rw [hE] at BE ⊢
  obtain ⟨w2, hw2⟩ : ∃ w2, (w.alloc (.cells #[.int .i64 4, .slice a1 2 c1, .slice a2 0 c2] 64)) = w2 := ⟨_, rfl⟩
  rw [hw2] at BE JE ⊢
  have e0 := BE.out.at_ (i := 0) _ rfl
  have e1 := BE.out.at_ (i := 1) _ rfl
  have e2 := BE.out.at_ (i := 2) _ rfl
  have hEl := BE.out.lt
  have HE := Lib.hid hE
  clear hw2 hE
  go_loopw [7] (fun ii wr => ∃ j : Nat, j ≤ 0 ∧ ii = .int .i64 j ∧ wr = w2) (fun ii _ => 0 - (intOf ii).toNat)
  case atStart => exact ⟨0, Nat.zero_le _, rfl, rfl⟩
  case round =>
    obtain ⟨j, hj, rfl, rfl⟩ := hrel
    obtain rfl : j = 0 := by omega
    have OE := Lib.hid (show (wr.alloc (.cells #[] 3)).ownsRow wr.heap.size 3 1 (.slice (some ⟨wr.heap.size, 0, none⟩) 0 0) 0 [] from ⟨rfl, .inr ⟨_, 0, #[], rfl, Nat.le_refl _, heap_new _ _, Nat.le_refl _, by unfold maxLen; omega, rfl, rfl⟩⟩)
    have HR1 := Lib.hid (show RowAt (wr.alloc (.cells #[] 3)) a1 (([n0, n1] : List Int).map (Value.int .i64)) from (HRN.out.same JE.out).same ((Mod.refl _ _).alloc _))
    go_upto_region 7 with (first | (at_builtin; refine wpList_append_in (by rfl) (.tmp 26) (.tmp 28) (by rfl) wr.heap.size _ 0 [] (by rfl) OE.out a1 2 c1 [n0, n1] (by rfl) (by rfl) HR1.out (by omega) (by simp) ?_; intro v3 w3 hown3 hgrow3; have J3 := Lib.hid (show Same wr w3 from ((Mod.refl (fun _ => False) wr).alloc _).grown hgrow3 (fun k hk hl => by have := owns_ge OE.out k hk; omega)); have K3 := Lib.hid hown3; have f0 := (J3.out.cell hEl (fun q => q) 0).trans e0; have hE3 := Nat.lt_of_lt_of_le hEl J3.out.size; have hs3 := J3.out.size; clear hown3 hgrow3) | (at_builtin; refine wpList_append_in (by rfl) (.tmp 29) (.tmp 30) (by rfl) wr.heap.size _ (0 + 2) _ (by rfl) (own_mod2 K3.out ((Mod.refl _ _).alloc _) (fun _ _ q => q)) (some ⟨w3.heap.size, 0, none⟩) 3 3 [0, 0, 0] (by rfl) (by rfl) (fun _ => ⟨w3.heap.size, 0, rfl, by simp, fun i u hu => by rw [Nat.zero_add]; exact (one3_new w3 i u hu)⟩) (by omega) (by simp; omega) ?_; intro v4 w4 hown4 hgrow4; have J4 := Lib.hid (show Same wr w4 from (J3.out.alloc _).grown hgrow4 (fun k hk hl => by have := owns_ge K3.out k hk; omega)); have K4 := Lib.hid hown4; have f00 := (J4.out.cell hEl (fun q => q) 0).trans e0; clear hown4 hgrow4))
    obtain ⟨gn, cn, rfl, hgn, hgnl, m0, m1, m2⟩ := row3_of (ns := [n0, n1]) (n := 2) rfl (by have hh := K4.out; simp only [List.nil_append, Nat.zero_add] at hh; exact hh)
    change w4.cell? ⟨gn, 0, none⟩ = some (.int .i64 n0) at m0
    change w4.cell? ⟨gn, 1, none⟩ = some (.int .i64 n1) at m1
    change w4.cell? ⟨gn, 2, none⟩ = some (.int .i64 0) at m2
    have JW := Lib.hid (JE.out.same J4.out)
    have hE4 := Nat.lt_of_lt_of_le hEl J4.out.size
    have HD4 := Lib.hid (HD.out.same JW.out)
    have hs4 := JW.out.size
    have HFL := Lib.hid (show ∀ i, F i → i < w.heap.size from by obtain ⟨_, _, _, _, _, _, hx⟩ := HD.out; exact hx.fl)
    have hgF : ¬ F gn := fun z => by have := HFL.out gn z; have := JE.out.size; omega
    have hEF : ¬ F E := fun z => by have := HFL.out E z; have := HE.out; omega
    clear K3 K4 OE e0 e1 e2 f0 hE3 hs3 J3 HR1
    have CC := Lib.hid (fun W (M : Same w4 W) => dresize_any (HD4.out.same M) hB n0 n1)
    unfold bp at CC
    have hS4 : (fun W : World => W.cell? ⟨gn, 0, none⟩ = some (.int .i64 n0) ∧ W.cell? ⟨gn, 1, none⟩ = some (.int .i64 n1)) w4 := ⟨m0, m1⟩
    have HS := Lib.hid (show ∀ W, Same w4 W → (fun W : World => W.cell? ⟨gn, 0, none⟩ = some (.int .i64 n0) ∧ W.cell? ⟨gn, 1, none⟩ = some (.int .i64 n1)) W from fun W M => ⟨(M.cell hgnl (fun q => q) _).trans m0, (M.cell hgnl (fun q => q) _).trans m1⟩)
    have HSM := Lib.hid (show ∀ W, Mod F w4.drew W → (fun W : World => W.cell? ⟨gn, 0, none⟩ = some (.int .i64 n0) ∧ W.cell? ⟨gn, 1, none⟩ = some (.int .i64 n1)) W from fun W M => ⟨(M.cell (w := w4.drew) hgnl hgF _).trans m0, (M.cell (w := w4.drew) hgnl hgF _).trans m1⟩)
    go_wp2_with fail
    go_region_held3 (fun W : World => W.cell? ⟨gn, 0, none⟩ = some (.int .i64 n0) ∧ W.cell? ⟨gn, 1, none⟩ = some (.int .i64 n1)) (first | exact hS4 | assumption | exact HS.out _ ((Mod.refl _ _).drew)) ((
      first
      | (go_at_call 63; refine (CC.out _ ((Mod.refl _ _).drew)).mono ?_; rintro e w5 ⟨er, D', F', rfl, hX, hD, hF, hM, hk, hb1, hb2, hch⟩; have HX := Lib.hid hX; have HDD := Lib.hid hD; have HFF := Lib.hid hF; have HMM := Lib.hid hM; have HKK := Lib.hid (show D'.k = D.k ∧ D'.births ≤ D.births + 1 ∧ D.births ≤ D'.births ∧ D'.ch = D.ch from ⟨hk, hb1, hb2, hch⟩); have hS5 := HSM.out _ hM; clear hX hD hF hM hk hb1 hb2 hch)))
    go_wp2_with fail
    have hX := HX.out
    exact HR.out _ _ ⟨er, [], false, D', F', rfl, (by unfold DoR; rw [if_neg HQ.out]; exact ⟨hX, rfl, rfl⟩), HDD.out, fun y hy => (HFF.out y hy).imp (fun z => z) (fun z => Nat.le_trans hs4 z), (JW.out.drew.mono (fun _ _ q => q.elim)).then_ HMM.out (fun i _ q => q), HKK.out.1, HKK.out.2.1, HKK.out.2.2.1, by rw [HKK.out.2.2.2]; omega⟩

set_option maxHeartbeats 16000000 in
theorem rdo_4 (h : Dq F w p D) (hB : D.vols.length ≤ 1000) (hC : D.ch.length ≤ 50000) (hb : 0 ≤ D.births ∧ D.births ≤ 100000) (n0 : Int) (a1 a2 : Option Addr) (c1 c2 : Nat) (hn0 : J64 n0) (hr : RowAt w a1 (([n0] : List Int).map (Value.int .i64))) (hr2 : RowAt w a2 (([] : List (List UInt8)).map strV)) :
    Calls Tryz.prog 21 #[bp p, rordV ⟨4, [n0], []⟩ a1 a2 c1 c2] w fun e w' => RDo F w p D ⟨4, [n0], []⟩ e w' := by
  refine opq fun R HR => ?_
  have HD := Lib.hid h
  have HRN := Lib.hid hr
  have HQ := Lib.hid (show ¬ (([] : List (List UInt8)).all (fun t => decide (t.length ≤ 512)) = false) by simp)
  have BE := Lib.hid (Blk.new w #[.int .i64 5, .slice a1 1 c1, .slice a2 0 c2] 64)
  have JE := Lib.hid (show Same w (w.alloc (.cells #[.int .i64 5, .slice a1 1 c1, .slice a2 0 c2] 64)) from (Mod.refl _ _).alloc _)
  unfold bp rordV
  clear h hr hr2
  show Calls Tryz.prog 21 #[_, .agg #[.int .i64 5, .slice a1 1 c1, .slice a2 0 c2]] w R
  go_enter Tryz.func21, Tryz.ntmps21
  go_wp2_with fail
  obtain ⟨E, hE⟩ : ∃ E, w.heap.size = E := ⟨_, rfl⟩
  rw [hE] at BE ⊢
  obtain ⟨w2, hw2⟩ : ∃ w2, (w.alloc (.cells #[.int .i64 5, .slice a1 1 c1, .slice a2 0 c2] 64)) = w2 := ⟨_, rfl⟩
  rw [hw2] at BE JE ⊢
  have e0 := BE.out.at_ (i := 0) _ rfl
  have e1 := BE.out.at_ (i := 1) _ rfl
  have e2 := BE.out.at_ (i := 2) _ rfl
  have hEl := BE.out.lt
  have HE := Lib.hid hE
  clear hw2 hE
  go_loopw [7] (fun ii wr => ∃ j : Nat, j ≤ 0 ∧ ii = .int .i64 j ∧ wr = w2) (fun ii _ => 0 - (intOf ii).toNat)
  case atStart => exact ⟨0, Nat.zero_le _, rfl, rfl⟩
  case round =>
    obtain ⟨j, hj, rfl, rfl⟩ := hrel
    obtain rfl : j = 0 := by omega
    have OE := Lib.hid (show (wr.alloc (.cells #[] 3)).ownsRow wr.heap.size 3 1 (.slice (some ⟨wr.heap.size, 0, none⟩) 0 0) 0 [] from ⟨rfl, .inr ⟨_, 0, #[], rfl, Nat.le_refl _, heap_new _ _, Nat.le_refl _, by unfold maxLen; omega, rfl, rfl⟩⟩)
    have HR1 := Lib.hid (show RowAt (wr.alloc (.cells #[] 3)) a1 (([n0] : List Int).map (Value.int .i64)) from (HRN.out.same JE.out).same ((Mod.refl _ _).alloc _))
    go_upto_region 7 with (first | (at_builtin; refine wpList_append_in (by rfl) (.tmp 26) (.tmp 28) (by rfl) wr.heap.size _ 0 [] (by rfl) OE.out a1 1 c1 [n0] (by rfl) (by rfl) HR1.out (by omega) (by simp) ?_; intro v3 w3 hown3 hgrow3; have J3 := Lib.hid (show Same wr w3 from ((Mod.refl (fun _ => False) wr).alloc _).grown hgrow3 (fun k hk hl => by have := owns_ge OE.out k hk; omega)); have K3 := Lib.hid hown3; have f0 := (J3.out.cell hEl (fun q => q) 0).trans e0; have hE3 := Nat.lt_of_lt_of_le hEl J3.out.size; have hs3 := J3.out.size; clear hown3 hgrow3) | (at_builtin; refine wpList_append_in (by rfl) (.tmp 29) (.tmp 30) (by rfl) wr.heap.size _ (0 + 1) _ (by rfl) (own_mod2 K3.out ((Mod.refl _ _).alloc _) (fun _ _ q => q)) (some ⟨w3.heap.size, 0, none⟩) 3 3 [0, 0, 0] (by rfl) (by rfl) (fun _ => ⟨w3.heap.size, 0, rfl, by simp, fun i u hu => by rw [Nat.zero_add]; exact (one3_new w3 i u hu)⟩) (by omega) (by simp; omega) ?_; intro v4 w4 hown4 hgrow4; have J4 := Lib.hid (show Same wr w4 from (J3.out.alloc _).grown hgrow4 (fun k hk hl => by have := owns_ge K3.out k hk; omega)); have K4 := Lib.hid hown4; have f00 := (J4.out.cell hEl (fun q => q) 0).trans e0; clear hown4 hgrow4))
    obtain ⟨gn, cn, rfl, hgn, hgnl, m0, m1, m2⟩ := row3_of (ns := [n0]) (n := 1) rfl (by have hh := K4.out; simp only [List.nil_append, Nat.zero_add] at hh; exact hh)
    change w4.cell? ⟨gn, 0, none⟩ = some (.int .i64 n0) at m0
    change w4.cell? ⟨gn, 1, none⟩ = some (.int .i64 0) at m1
    change w4.cell? ⟨gn, 2, none⟩ = some (.int .i64 0) at m2
    have JW := Lib.hid (JE.out.same J4.out)
    have hE4 := Nat.lt_of_lt_of_le hEl J4.out.size
    have HD4 := Lib.hid (HD.out.same JW.out)
    have hs4 := JW.out.size
    have HFL := Lib.hid (show ∀ i, F i → i < w.heap.size from by obtain ⟨_, _, _, _, _, _, hx⟩ := HD.out; exact hx.fl)
    have hgF : ¬ F gn := fun z => by have := HFL.out gn z; have := JE.out.size; omega
    have hEF : ¬ F E := fun z => by have := HFL.out E z; have := HE.out; omega
    clear K3 K4 OE e0 e1 e2 f0 hE3 hs3 J3 HR1
    have CC := Lib.hid (fun W (M : Same w4 W) => dpin_any (HD4.out.same M) hB n0 true)
    unfold bp at CC
    have hS4 : (fun W : World => W.cell? ⟨gn, 0, none⟩ = some (.int .i64 n0) ∧ W.cell? ⟨E, 0, none⟩ = some (.int .i64 5)) w4 := ⟨m0, f00⟩
    have HS := Lib.hid (show ∀ W, Same w4 W → (fun W : World => W.cell? ⟨gn, 0, none⟩ = some (.int .i64 n0) ∧ W.cell? ⟨E, 0, none⟩ = some (.int .i64 5)) W from fun W M => ⟨(M.cell hgnl (fun q => q) _).trans m0, (M.cell hE4 (fun q => q) _).trans f00⟩)
    have HSM := Lib.hid (show ∀ W, Mod F w4.drew W → (fun W : World => W.cell? ⟨gn, 0, none⟩ = some (.int .i64 n0) ∧ W.cell? ⟨E, 0, none⟩ = some (.int .i64 5)) W from fun W M => ⟨(M.cell (w := w4.drew) hgnl hgF _).trans m0, (M.cell (w := w4.drew) hE4 hEF _).trans f00⟩)
    go_wp2_with fail
    go_region_held3 (fun W : World => W.cell? ⟨gn, 0, none⟩ = some (.int .i64 n0) ∧ W.cell? ⟨E, 0, none⟩ = some (.int .i64 5)) (first | exact hS4 | assumption | exact HS.out _ ((Mod.refl _ _).drew)) ((
      first
      | (go_at_call 64; refine (CC.out _ ((Mod.refl _ _).drew)).mono ?_; rintro e w5 ⟨er, D', F', rfl, hX, hD, hF, hM, hk, hb1, hb2, hch⟩; have HX := Lib.hid hX; have HDD := Lib.hid hD; have HFF := Lib.hid hF; have HMM := Lib.hid hM; have HKK := Lib.hid (show D'.k = D.k ∧ D'.births ≤ D.births + 1 ∧ D.births ≤ D'.births ∧ D'.ch = D.ch from ⟨hk, hb1, hb2, hch⟩); have hS5 := HSM.out _ hM; clear hX hD hF hM hk hb1 hb2 hch)))
    go_wp2_with fail
    have hX := HX.out
    exact HR.out _ _ ⟨er, [], false, D', F', rfl, (by unfold DoR; rw [if_neg HQ.out]; exact ⟨hX, rfl, rfl⟩), HDD.out, fun y hy => (HFF.out y hy).imp (fun z => z) (fun z => Nat.le_trans hs4 z), (JW.out.drew.mono (fun _ _ q => q.elim)).then_ HMM.out (fun i _ q => q), HKK.out.1, HKK.out.2.1, HKK.out.2.2.1, by rw [HKK.out.2.2.2]; omega⟩

set_option maxHeartbeats 16000000 in
theorem rdo_5 (h : Dq F w p D) (hB : D.vols.length ≤ 1000) (hC : D.ch.length ≤ 50000) (hb : 0 ≤ D.births ∧ D.births ≤ 100000) (n0 : Int) (a1 a2 : Option Addr) (c1 c2 : Nat) (hn0 : J64 n0) (hr : RowAt w a1 (([n0] : List Int).map (Value.int .i64))) (hr2 : RowAt w a2 (([] : List (List UInt8)).map strV)) :
    Calls Tryz.prog 21 #[bp p, rordV ⟨5, [n0], []⟩ a1 a2 c1 c2] w fun e w' => RDo F w p D ⟨5, [n0], []⟩ e w' := by
  refine opq fun R HR => ?_
  have HD := Lib.hid h
  have HRN := Lib.hid hr
  have HQ := Lib.hid (show ¬ (([] : List (List UInt8)).all (fun t => decide (t.length ≤ 512)) = false) by simp)
  have BE := Lib.hid (Blk.new w #[.int .i64 6, .slice a1 1 c1, .slice a2 0 c2] 64)
  have JE := Lib.hid (show Same w (w.alloc (.cells #[.int .i64 6, .slice a1 1 c1, .slice a2 0 c2] 64)) from (Mod.refl _ _).alloc _)
  unfold bp rordV
  clear h hr hr2
  show Calls Tryz.prog 21 #[_, .agg #[.int .i64 6, .slice a1 1 c1, .slice a2 0 c2]] w R
  go_enter Tryz.func21, Tryz.ntmps21
  go_wp2_with fail
  obtain ⟨E, hE⟩ : ∃ E, w.heap.size = E := ⟨_, rfl⟩
  rw [hE] at BE ⊢
  obtain ⟨w2, hw2⟩ : ∃ w2, (w.alloc (.cells #[.int .i64 6, .slice a1 1 c1, .slice a2 0 c2] 64)) = w2 := ⟨_, rfl⟩
  rw [hw2] at BE JE ⊢
  have e0 := BE.out.at_ (i := 0) _ rfl
  have e1 := BE.out.at_ (i := 1) _ rfl
  have e2 := BE.out.at_ (i := 2) _ rfl
  have hEl := BE.out.lt
  have HE := Lib.hid hE
  clear hw2 hE
  go_loopw [7] (fun ii wr => ∃ j : Nat, j ≤ 0 ∧ ii = .int .i64 j ∧ wr = w2) (fun ii _ => 0 - (intOf ii).toNat)
  case atStart => exact ⟨0, Nat.zero_le _, rfl, rfl⟩
  case round =>
    obtain ⟨j, hj, rfl, rfl⟩ := hrel
    obtain rfl : j = 0 := by omega
    have OE := Lib.hid (show (wr.alloc (.cells #[] 3)).ownsRow wr.heap.size 3 1 (.slice (some ⟨wr.heap.size, 0, none⟩) 0 0) 0 [] from ⟨rfl, .inr ⟨_, 0, #[], rfl, Nat.le_refl _, heap_new _ _, Nat.le_refl _, by unfold maxLen; omega, rfl, rfl⟩⟩)
    have HR1 := Lib.hid (show RowAt (wr.alloc (.cells #[] 3)) a1 (([n0] : List Int).map (Value.int .i64)) from (HRN.out.same JE.out).same ((Mod.refl _ _).alloc _))
    go_upto_region 7 with (first | (at_builtin; refine wpList_append_in (by rfl) (.tmp 26) (.tmp 28) (by rfl) wr.heap.size _ 0 [] (by rfl) OE.out a1 1 c1 [n0] (by rfl) (by rfl) HR1.out (by omega) (by simp) ?_; intro v3 w3 hown3 hgrow3; have J3 := Lib.hid (show Same wr w3 from ((Mod.refl (fun _ => False) wr).alloc _).grown hgrow3 (fun k hk hl => by have := owns_ge OE.out k hk; omega)); have K3 := Lib.hid hown3; have f0 := (J3.out.cell hEl (fun q => q) 0).trans e0; have hE3 := Nat.lt_of_lt_of_le hEl J3.out.size; have hs3 := J3.out.size; clear hown3 hgrow3) | (at_builtin; refine wpList_append_in (by rfl) (.tmp 29) (.tmp 30) (by rfl) wr.heap.size _ (0 + 1) _ (by rfl) (own_mod2 K3.out ((Mod.refl _ _).alloc _) (fun _ _ q => q)) (some ⟨w3.heap.size, 0, none⟩) 3 3 [0, 0, 0] (by rfl) (by rfl) (fun _ => ⟨w3.heap.size, 0, rfl, by simp, fun i u hu => by rw [Nat.zero_add]; exact (one3_new w3 i u hu)⟩) (by omega) (by simp; omega) ?_; intro v4 w4 hown4 hgrow4; have J4 := Lib.hid (show Same wr w4 from (J3.out.alloc _).grown hgrow4 (fun k hk hl => by have := owns_ge K3.out k hk; omega)); have K4 := Lib.hid hown4; have f00 := (J4.out.cell hEl (fun q => q) 0).trans e0; clear hown4 hgrow4))
    obtain ⟨gn, cn, rfl, hgn, hgnl, m0, m1, m2⟩ := row3_of (ns := [n0]) (n := 1) rfl (by have hh := K4.out; simp only [List.nil_append, Nat.zero_add] at hh; exact hh)
    change w4.cell? ⟨gn, 0, none⟩ = some (.int .i64 n0) at m0
    change w4.cell? ⟨gn, 1, none⟩ = some (.int .i64 0) at m1
    change w4.cell? ⟨gn, 2, none⟩ = some (.int .i64 0) at m2
    have JW := Lib.hid (JE.out.same J4.out)
    have hE4 := Nat.lt_of_lt_of_le hEl J4.out.size
    have HD4 := Lib.hid (HD.out.same JW.out)
    have hs4 := JW.out.size
    have HFL := Lib.hid (show ∀ i, F i → i < w.heap.size from by obtain ⟨_, _, _, _, _, _, hx⟩ := HD.out; exact hx.fl)
    have hgF : ¬ F gn := fun z => by have := HFL.out gn z; have := JE.out.size; omega
    have hEF : ¬ F E := fun z => by have := HFL.out E z; have := HE.out; omega
    clear K3 K4 OE e0 e1 e2 f0 hE3 hs3 J3 HR1
    have CC := Lib.hid (fun W (M : Same w4 W) => dpin_any (HD4.out.same M) hB n0 false)
    unfold bp at CC
    have hS4 : (fun W : World => W.cell? ⟨gn, 0, none⟩ = some (.int .i64 n0) ∧ W.cell? ⟨E, 0, none⟩ = some (.int .i64 6)) w4 := ⟨m0, f00⟩
    have HS := Lib.hid (show ∀ W, Same w4 W → (fun W : World => W.cell? ⟨gn, 0, none⟩ = some (.int .i64 n0) ∧ W.cell? ⟨E, 0, none⟩ = some (.int .i64 6)) W from fun W M => ⟨(M.cell hgnl (fun q => q) _).trans m0, (M.cell hE4 (fun q => q) _).trans f00⟩)
    have HSM := Lib.hid (show ∀ W, Mod F w4.drew W → (fun W : World => W.cell? ⟨gn, 0, none⟩ = some (.int .i64 n0) ∧ W.cell? ⟨E, 0, none⟩ = some (.int .i64 6)) W from fun W M => ⟨(M.cell (w := w4.drew) hgnl hgF _).trans m0, (M.cell (w := w4.drew) hE4 hEF _).trans f00⟩)
    go_wp2_with fail
    go_region_held3 (fun W : World => W.cell? ⟨gn, 0, none⟩ = some (.int .i64 n0) ∧ W.cell? ⟨E, 0, none⟩ = some (.int .i64 6)) (first | exact hS4 | assumption | exact HS.out _ ((Mod.refl _ _).drew)) ((
      first
      | (go_at_call 64; refine (CC.out _ ((Mod.refl _ _).drew)).mono ?_; rintro e w5 ⟨er, D', F', rfl, hX, hD, hF, hM, hk, hb1, hb2, hch⟩; have HX := Lib.hid hX; have HDD := Lib.hid hD; have HFF := Lib.hid hF; have HMM := Lib.hid hM; have HKK := Lib.hid (show D'.k = D.k ∧ D'.births ≤ D.births + 1 ∧ D.births ≤ D'.births ∧ D'.ch = D.ch from ⟨hk, hb1, hb2, hch⟩); have hS5 := HSM.out _ hM; clear hX hD hF hM hk hb1 hb2 hch)))
    go_wp2_with fail
    have hX := HX.out
    exact HR.out _ _ ⟨er, [], false, D', F', rfl, (by unfold DoR; rw [if_neg HQ.out]; exact ⟨hX, rfl, rfl⟩), HDD.out, fun y hy => (HFF.out y hy).imp (fun z => z) (fun z => Nat.le_trans hs4 z), (JW.out.drew.mono (fun _ _ q => q.elim)).then_ HMM.out (fun i _ q => q), HKK.out.1, HKK.out.2.1, HKK.out.2.2.1, by rw [HKK.out.2.2.2]; omega⟩

set_option maxHeartbeats 16000000 in
theorem rdo_9 (h : Dq F w p D) (hB : D.vols.length ≤ 1000) (hC : D.ch.length ≤ 50000) (hb : 0 ≤ D.births ∧ D.births ≤ 100000) (a1 a2 : Option Addr) (c1 c2 : Nat) (hr : RowAt w a1 (([] : List Int).map (Value.int .i64))) (hr2 : RowAt w a2 (([] : List (List UInt8)).map strV)) :
    Calls Tryz.prog 21 #[bp p, rordV ⟨9, [], []⟩ a1 a2 c1 c2] w fun e w' => RDo F w p D ⟨9, [], []⟩ e w' := by
  refine opq fun R HR => ?_
  have HD := Lib.hid h
  have HRN := Lib.hid hr
  have HQ := Lib.hid (show ¬ (([] : List (List UInt8)).all (fun t => decide (t.length ≤ 512)) = false) by simp)
  have BE := Lib.hid (Blk.new w #[.int .i64 10, .slice a1 0 c1, .slice a2 0 c2] 64)
  have JE := Lib.hid (show Same w (w.alloc (.cells #[.int .i64 10, .slice a1 0 c1, .slice a2 0 c2] 64)) from (Mod.refl _ _).alloc _)
  unfold bp rordV
  clear h hr hr2
  show Calls Tryz.prog 21 #[_, .agg #[.int .i64 10, .slice a1 0 c1, .slice a2 0 c2]] w R
  go_enter Tryz.func21, Tryz.ntmps21
  go_wp2_with fail
  obtain ⟨E, hE⟩ : ∃ E, w.heap.size = E := ⟨_, rfl⟩
  rw [hE] at BE ⊢
  obtain ⟨w2, hw2⟩ : ∃ w2, (w.alloc (.cells #[.int .i64 10, .slice a1 0 c1, .slice a2 0 c2] 64)) = w2 := ⟨_, rfl⟩
  rw [hw2] at BE JE ⊢
  have e0 := BE.out.at_ (i := 0) _ rfl
  have e1 := BE.out.at_ (i := 1) _ rfl
  have e2 := BE.out.at_ (i := 2) _ rfl
  have hEl := BE.out.lt
  have HE := Lib.hid hE
  clear hw2 hE
  go_loopw [7] (fun ii wr => ∃ j : Nat, j ≤ 0 ∧ ii = .int .i64 j ∧ wr = w2) (fun ii _ => 0 - (intOf ii).toNat)
  case atStart => exact ⟨0, Nat.zero_le _, rfl, rfl⟩
  case round =>
    obtain ⟨j, hj, rfl, rfl⟩ := hrel
    obtain rfl : j = 0 := by omega
    have OE := Lib.hid (show (wr.alloc (.cells #[] 3)).ownsRow wr.heap.size 3 1 (.slice (some ⟨wr.heap.size, 0, none⟩) 0 0) 0 [] from ⟨rfl, .inr ⟨_, 0, #[], rfl, Nat.le_refl _, heap_new _ _, Nat.le_refl _, by unfold maxLen; omega, rfl, rfl⟩⟩)
    have HR1 := Lib.hid (show RowAt (wr.alloc (.cells #[] 3)) a1 (([] : List Int).map (Value.int .i64)) from (HRN.out.same JE.out).same ((Mod.refl _ _).alloc _))
    go_upto_region 7 with (first | (at_builtin; refine wpList_append_in (by rfl) (.tmp 26) (.tmp 28) (by rfl) wr.heap.size _ 0 [] (by rfl) OE.out a1 0 c1 [] (by rfl) (by rfl) HR1.out (by omega) (by simp) ?_; intro v3 w3 hown3 hgrow3; have J3 := Lib.hid (show Same wr w3 from ((Mod.refl (fun _ => False) wr).alloc _).grown hgrow3 (fun k hk hl => by have := owns_ge OE.out k hk; omega)); have K3 := Lib.hid hown3; have f0 := (J3.out.cell hEl (fun q => q) 0).trans e0; have hE3 := Nat.lt_of_lt_of_le hEl J3.out.size; have hs3 := J3.out.size; clear hown3 hgrow3) | (at_builtin; refine wpList_append_in (by rfl) (.tmp 29) (.tmp 30) (by rfl) wr.heap.size _ (0 + 0) _ (by rfl) (own_mod2 K3.out ((Mod.refl _ _).alloc _) (fun _ _ q => q)) (some ⟨w3.heap.size, 0, none⟩) 3 3 [0, 0, 0] (by rfl) (by rfl) (fun _ => ⟨w3.heap.size, 0, rfl, by simp, fun i u hu => by rw [Nat.zero_add]; exact (one3_new w3 i u hu)⟩) (by omega) (by simp; omega) ?_; intro v4 w4 hown4 hgrow4; have J4 := Lib.hid (show Same wr w4 from (J3.out.alloc _).grown hgrow4 (fun k hk hl => by have := owns_ge K3.out k hk; omega)); have K4 := Lib.hid hown4; have f00 := (J4.out.cell hEl (fun q => q) 0).trans e0; clear hown4 hgrow4))
    obtain ⟨gn, cn, rfl, hgn, hgnl, m0, m1, m2⟩ := row3_of (ns := []) (n := 0) rfl (by have hh := K4.out; simp only [List.nil_append, Nat.zero_add] at hh; exact hh)
    change w4.cell? ⟨gn, 0, none⟩ = some (.int .i64 0) at m0
    change w4.cell? ⟨gn, 1, none⟩ = some (.int .i64 0) at m1
    change w4.cell? ⟨gn, 2, none⟩ = some (.int .i64 0) at m2
    have JW := Lib.hid (JE.out.same J4.out)
    have hE4 := Nat.lt_of_lt_of_le hEl J4.out.size
    have HD4 := Lib.hid (HD.out.same JW.out)
    have hs4 := JW.out.size
    have HFL := Lib.hid (show ∀ i, F i → i < w.heap.size from by obtain ⟨_, _, _, _, _, _, hx⟩ := HD.out; exact hx.fl)
    have hgF : ¬ F gn := fun z => by have := HFL.out gn z; have := JE.out.size; omega
    have hEF : ¬ F E := fun z => by have := HFL.out E z; have := HE.out; omega
    clear K3 K4 OE e0 e1 e2 f0 hE3 hs3 J3 HR1
    go_wp2_with fail
    exact HR.out _ _ ⟨0, [], false, D, F, rfl, (by unfold DoR; rw [if_neg HQ.out]; exact ⟨rfl, rfl, rfl, rfl⟩), HD4.out, fun y => .inl, JW.out.mono (fun _ _ q => q.elim), rfl, by omega, Int.le_refl _, by omega⟩

set_option maxHeartbeats 16000000 in
theorem rdo_10 (h : Dq F w p D) (hB : D.vols.length ≤ 1000) (hC : D.ch.length ≤ 50000) (hb : 0 ≤ D.births ∧ D.births ≤ 100000) (n0 : Int) (a1 a2 : Option Addr) (c1 c2 : Nat) (hn0 : J64 n0) (hr : RowAt w a1 (([n0] : List Int).map (Value.int .i64))) (hr2 : RowAt w a2 (([] : List (List UInt8)).map strV)) :
    Calls Tryz.prog 21 #[bp p, rordV ⟨10, [n0], []⟩ a1 a2 c1 c2] w fun e w' => RDo F w p D ⟨10, [n0], []⟩ e w' := by
  refine opq fun R HR => ?_
  have HD := Lib.hid h
  have HRN := Lib.hid hr
  have HQ := Lib.hid (show ¬ (([] : List (List UInt8)).all (fun t => decide (t.length ≤ 512)) = false) by simp)
  have BE := Lib.hid (Blk.new w #[.int .i64 11, .slice a1 1 c1, .slice a2 0 c2] 64)
  have JE := Lib.hid (show Same w (w.alloc (.cells #[.int .i64 11, .slice a1 1 c1, .slice a2 0 c2] 64)) from (Mod.refl _ _).alloc _)
  unfold bp rordV
  clear h hr hr2
  show Calls Tryz.prog 21 #[_, .agg #[.int .i64 11, .slice a1 1 c1, .slice a2 0 c2]] w R
  go_enter Tryz.func21, Tryz.ntmps21
  go_wp2_with fail
  obtain ⟨E, hE⟩ : ∃ E, w.heap.size = E := ⟨_, rfl⟩
  rw [hE] at BE ⊢
  obtain ⟨w2, hw2⟩ : ∃ w2, (w.alloc (.cells #[.int .i64 11, .slice a1 1 c1, .slice a2 0 c2] 64)) = w2 := ⟨_, rfl⟩
  rw [hw2] at BE JE ⊢
  have e0 := BE.out.at_ (i := 0) _ rfl
  have e1 := BE.out.at_ (i := 1) _ rfl
  have e2 := BE.out.at_ (i := 2) _ rfl
  have hEl := BE.out.lt
  have HE := Lib.hid hE
  clear hw2 hE
  go_loopw [7] (fun ii wr => ∃ j : Nat, j ≤ 0 ∧ ii = .int .i64 j ∧ wr = w2) (fun ii _ => 0 - (intOf ii).toNat)
  case atStart => exact ⟨0, Nat.zero_le _, rfl, rfl⟩
  case round =>
    obtain ⟨j, hj, rfl, rfl⟩ := hrel
    obtain rfl : j = 0 := by omega
    have OE := Lib.hid (show (wr.alloc (.cells #[] 3)).ownsRow wr.heap.size 3 1 (.slice (some ⟨wr.heap.size, 0, none⟩) 0 0) 0 [] from ⟨rfl, .inr ⟨_, 0, #[], rfl, Nat.le_refl _, heap_new _ _, Nat.le_refl _, by unfold maxLen; omega, rfl, rfl⟩⟩)
    have HR1 := Lib.hid (show RowAt (wr.alloc (.cells #[] 3)) a1 (([n0] : List Int).map (Value.int .i64)) from (HRN.out.same JE.out).same ((Mod.refl _ _).alloc _))
    go_upto_region 7 with (first | (at_builtin; refine wpList_append_in (by rfl) (.tmp 26) (.tmp 28) (by rfl) wr.heap.size _ 0 [] (by rfl) OE.out a1 1 c1 [n0] (by rfl) (by rfl) HR1.out (by omega) (by simp) ?_; intro v3 w3 hown3 hgrow3; have J3 := Lib.hid (show Same wr w3 from ((Mod.refl (fun _ => False) wr).alloc _).grown hgrow3 (fun k hk hl => by have := owns_ge OE.out k hk; omega)); have K3 := Lib.hid hown3; have f0 := (J3.out.cell hEl (fun q => q) 0).trans e0; have hE3 := Nat.lt_of_lt_of_le hEl J3.out.size; have hs3 := J3.out.size; clear hown3 hgrow3) | (at_builtin; refine wpList_append_in (by rfl) (.tmp 29) (.tmp 30) (by rfl) wr.heap.size _ (0 + 1) _ (by rfl) (own_mod2 K3.out ((Mod.refl _ _).alloc _) (fun _ _ q => q)) (some ⟨w3.heap.size, 0, none⟩) 3 3 [0, 0, 0] (by rfl) (by rfl) (fun _ => ⟨w3.heap.size, 0, rfl, by simp, fun i u hu => by rw [Nat.zero_add]; exact (one3_new w3 i u hu)⟩) (by omega) (by simp; omega) ?_; intro v4 w4 hown4 hgrow4; have J4 := Lib.hid (show Same wr w4 from (J3.out.alloc _).grown hgrow4 (fun k hk hl => by have := owns_ge K3.out k hk; omega)); have K4 := Lib.hid hown4; have f00 := (J4.out.cell hEl (fun q => q) 0).trans e0; clear hown4 hgrow4))
    obtain ⟨gn, cn, rfl, hgn, hgnl, m0, m1, m2⟩ := row3_of (ns := [n0]) (n := 1) rfl (by have hh := K4.out; simp only [List.nil_append, Nat.zero_add] at hh; exact hh)
    change w4.cell? ⟨gn, 0, none⟩ = some (.int .i64 n0) at m0
    change w4.cell? ⟨gn, 1, none⟩ = some (.int .i64 0) at m1
    change w4.cell? ⟨gn, 2, none⟩ = some (.int .i64 0) at m2
    have JW := Lib.hid (JE.out.same J4.out)
    have hE4 := Nat.lt_of_lt_of_le hEl J4.out.size
    have HD4 := Lib.hid (HD.out.same JW.out)
    have hs4 := JW.out.size
    have HFL := Lib.hid (show ∀ i, F i → i < w.heap.size from by obtain ⟨_, _, _, _, _, _, hx⟩ := HD.out; exact hx.fl)
    have hgF : ¬ F gn := fun z => by have := HFL.out gn z; have := JE.out.size; omega
    have hEF : ¬ F E := fun z => by have := HFL.out E z; have := HE.out; omega
    clear K3 K4 OE e0 e1 e2 f0 hE3 hs3 J3 HR1
    go_wp2_with fail
    exact HR.out _ _ ⟨0, [], false, D, F, rfl, (by unfold DoR; rw [if_neg HQ.out]; exact ⟨rfl, rfl, rfl, rfl⟩), HD4.out, fun y => .inl, JW.out.mono (fun _ _ q => q.elim), rfl, by omega, Int.le_refl _, by omega⟩

set_option maxHeartbeats 16000000 in
theorem rdo_11 (h : Dq F w p D) (hB : D.vols.length ≤ 1000) (hC : D.ch.length ≤ 50000) (hb : 0 ≤ D.births ∧ D.births ≤ 100000) (a1 a2 : Option Addr) (c1 c2 : Nat) (hr : RowAt w a1 (([] : List Int).map (Value.int .i64))) (hr2 : RowAt w a2 (([] : List (List UInt8)).map strV)) :
    Calls Tryz.prog 21 #[bp p, rordV ⟨11, [], []⟩ a1 a2 c1 c2] w fun e w' => RDo F w p D ⟨11, [], []⟩ e w' := by
  refine opq fun R HR => ?_
  have HD := Lib.hid h
  have HRN := Lib.hid hr
  have HQ := Lib.hid (show ¬ (([] : List (List UInt8)).all (fun t => decide (t.length ≤ 512)) = false) by simp)
  have BE := Lib.hid (Blk.new w #[.int .i64 12, .slice a1 0 c1, .slice a2 0 c2] 64)
  have JE := Lib.hid (show Same w (w.alloc (.cells #[.int .i64 12, .slice a1 0 c1, .slice a2 0 c2] 64)) from (Mod.refl _ _).alloc _)
  unfold bp rordV
  clear h hr hr2
  show Calls Tryz.prog 21 #[_, .agg #[.int .i64 12, .slice a1 0 c1, .slice a2 0 c2]] w R
  go_enter Tryz.func21, Tryz.ntmps21
  go_wp2_with fail
  obtain ⟨E, hE⟩ : ∃ E, w.heap.size = E := ⟨_, rfl⟩
  rw [hE] at BE ⊢
  obtain ⟨w2, hw2⟩ : ∃ w2, (w.alloc (.cells #[.int .i64 12, .slice a1 0 c1, .slice a2 0 c2] 64)) = w2 := ⟨_, rfl⟩
  rw [hw2] at BE JE ⊢
  have e0 := BE.out.at_ (i := 0) _ rfl
  have e1 := BE.out.at_ (i := 1) _ rfl
  have e2 := BE.out.at_ (i := 2) _ rfl
  have hEl := BE.out.lt
  have HE := Lib.hid hE
  clear hw2 hE
  go_loopw [7] (fun ii wr => ∃ j : Nat, j ≤ 0 ∧ ii = .int .i64 j ∧ wr = w2) (fun ii _ => 0 - (intOf ii).toNat)
  case atStart => exact ⟨0, Nat.zero_le _, rfl, rfl⟩
  case round =>
    obtain ⟨j, hj, rfl, rfl⟩ := hrel
    obtain rfl : j = 0 := by omega
    have OE := Lib.hid (show (wr.alloc (.cells #[] 3)).ownsRow wr.heap.size 3 1 (.slice (some ⟨wr.heap.size, 0, none⟩) 0 0) 0 [] from ⟨rfl, .inr ⟨_, 0, #[], rfl, Nat.le_refl _, heap_new _ _, Nat.le_refl _, by unfold maxLen; omega, rfl, rfl⟩⟩)
    have HR1 := Lib.hid (show RowAt (wr.alloc (.cells #[] 3)) a1 (([] : List Int).map (Value.int .i64)) from (HRN.out.same JE.out).same ((Mod.refl _ _).alloc _))
    go_upto_region 7 with (first | (at_builtin; refine wpList_append_in (by rfl) (.tmp 26) (.tmp 28) (by rfl) wr.heap.size _ 0 [] (by rfl) OE.out a1 0 c1 [] (by rfl) (by rfl) HR1.out (by omega) (by simp) ?_; intro v3 w3 hown3 hgrow3; have J3 := Lib.hid (show Same wr w3 from ((Mod.refl (fun _ => False) wr).alloc _).grown hgrow3 (fun k hk hl => by have := owns_ge OE.out k hk; omega)); have K3 := Lib.hid hown3; have f0 := (J3.out.cell hEl (fun q => q) 0).trans e0; have hE3 := Nat.lt_of_lt_of_le hEl J3.out.size; have hs3 := J3.out.size; clear hown3 hgrow3) | (at_builtin; refine wpList_append_in (by rfl) (.tmp 29) (.tmp 30) (by rfl) wr.heap.size _ (0 + 0) _ (by rfl) (own_mod2 K3.out ((Mod.refl _ _).alloc _) (fun _ _ q => q)) (some ⟨w3.heap.size, 0, none⟩) 3 3 [0, 0, 0] (by rfl) (by rfl) (fun _ => ⟨w3.heap.size, 0, rfl, by simp, fun i u hu => by rw [Nat.zero_add]; exact (one3_new w3 i u hu)⟩) (by omega) (by simp; omega) ?_; intro v4 w4 hown4 hgrow4; have J4 := Lib.hid (show Same wr w4 from (J3.out.alloc _).grown hgrow4 (fun k hk hl => by have := owns_ge K3.out k hk; omega)); have K4 := Lib.hid hown4; have f00 := (J4.out.cell hEl (fun q => q) 0).trans e0; clear hown4 hgrow4))
    obtain ⟨gn, cn, rfl, hgn, hgnl, m0, m1, m2⟩ := row3_of (ns := []) (n := 0) rfl (by have hh := K4.out; simp only [List.nil_append, Nat.zero_add] at hh; exact hh)
    change w4.cell? ⟨gn, 0, none⟩ = some (.int .i64 0) at m0
    change w4.cell? ⟨gn, 1, none⟩ = some (.int .i64 0) at m1
    change w4.cell? ⟨gn, 2, none⟩ = some (.int .i64 0) at m2
    have JW := Lib.hid (JE.out.same J4.out)
    have hE4 := Nat.lt_of_lt_of_le hEl J4.out.size
    have HD4 := Lib.hid (HD.out.same JW.out)
    have hs4 := JW.out.size
    have HFL := Lib.hid (show ∀ i, F i → i < w.heap.size from by obtain ⟨_, _, _, _, _, _, hx⟩ := HD.out; exact hx.fl)
    have hgF : ¬ F gn := fun z => by have := HFL.out gn z; have := JE.out.size; omega
    have hEF : ¬ F E := fun z => by have := HFL.out E z; have := HE.out; omega
    clear K3 K4 OE e0 e1 e2 f0 hE3 hs3 J3 HR1
    go_wp2_with fail
    exact HR.out _ _ ⟨0, [], false, D, F, rfl, (by unfold DoR; rw [if_neg HQ.out]; exact ⟨rfl, rfl, rfl, rfl⟩), HD4.out, fun y => .inl, JW.out.mono (fun _ _ q => q.elim), rfl, by omega, Int.le_refl _, by omega⟩

set_option maxHeartbeats 16000000 in
theorem rdo_12 (h : Dq F w p D) (hB : D.vols.length ≤ 1000) (hC : D.ch.length ≤ 50000) (hb : 0 ≤ D.births ∧ D.births ≤ 100000) (a1 a2 : Option Addr) (c1 c2 : Nat) (hr : RowAt w a1 (([] : List Int).map (Value.int .i64))) (hr2 : RowAt w a2 (([] : List (List UInt8)).map strV)) :
    Calls Tryz.prog 21 #[bp p, rordV ⟨12, [], []⟩ a1 a2 c1 c2] w fun e w' => RDo F w p D ⟨12, [], []⟩ e w' := by
  refine opq fun R HR => ?_
  have HD := Lib.hid h
  have HRN := Lib.hid hr
  have HQ := Lib.hid (show ¬ (([] : List (List UInt8)).all (fun t => decide (t.length ≤ 512)) = false) by simp)
  have BE := Lib.hid (Blk.new w #[.int .i64 13, .slice a1 0 c1, .slice a2 0 c2] 64)
  have JE := Lib.hid (show Same w (w.alloc (.cells #[.int .i64 13, .slice a1 0 c1, .slice a2 0 c2] 64)) from (Mod.refl _ _).alloc _)
  unfold bp rordV
  clear h hr hr2
  show Calls Tryz.prog 21 #[_, .agg #[.int .i64 13, .slice a1 0 c1, .slice a2 0 c2]] w R
  go_enter Tryz.func21, Tryz.ntmps21
  go_wp2_with fail
  obtain ⟨E, hE⟩ : ∃ E, w.heap.size = E := ⟨_, rfl⟩
  rw [hE] at BE ⊢
  obtain ⟨w2, hw2⟩ : ∃ w2, (w.alloc (.cells #[.int .i64 13, .slice a1 0 c1, .slice a2 0 c2] 64)) = w2 := ⟨_, rfl⟩
  rw [hw2] at BE JE ⊢
  have e0 := BE.out.at_ (i := 0) _ rfl
  have e1 := BE.out.at_ (i := 1) _ rfl
  have e2 := BE.out.at_ (i := 2) _ rfl
  have hEl := BE.out.lt
  have HE := Lib.hid hE
  clear hw2 hE
  go_loopw [7] (fun ii wr => ∃ j : Nat, j ≤ 0 ∧ ii = .int .i64 j ∧ wr = w2) (fun ii _ => 0 - (intOf ii).toNat)
  case atStart => exact ⟨0, Nat.zero_le _, rfl, rfl⟩
  case round =>
    obtain ⟨j, hj, rfl, rfl⟩ := hrel
    obtain rfl : j = 0 := by omega
    have OE := Lib.hid (show (wr.alloc (.cells #[] 3)).ownsRow wr.heap.size 3 1 (.slice (some ⟨wr.heap.size, 0, none⟩) 0 0) 0 [] from ⟨rfl, .inr ⟨_, 0, #[], rfl, Nat.le_refl _, heap_new _ _, Nat.le_refl _, by unfold maxLen; omega, rfl, rfl⟩⟩)
    have HR1 := Lib.hid (show RowAt (wr.alloc (.cells #[] 3)) a1 (([] : List Int).map (Value.int .i64)) from (HRN.out.same JE.out).same ((Mod.refl _ _).alloc _))
    go_upto_region 7 with (first | (at_builtin; refine wpList_append_in (by rfl) (.tmp 26) (.tmp 28) (by rfl) wr.heap.size _ 0 [] (by rfl) OE.out a1 0 c1 [] (by rfl) (by rfl) HR1.out (by omega) (by simp) ?_; intro v3 w3 hown3 hgrow3; have J3 := Lib.hid (show Same wr w3 from ((Mod.refl (fun _ => False) wr).alloc _).grown hgrow3 (fun k hk hl => by have := owns_ge OE.out k hk; omega)); have K3 := Lib.hid hown3; have f0 := (J3.out.cell hEl (fun q => q) 0).trans e0; have hE3 := Nat.lt_of_lt_of_le hEl J3.out.size; have hs3 := J3.out.size; clear hown3 hgrow3) | (at_builtin; refine wpList_append_in (by rfl) (.tmp 29) (.tmp 30) (by rfl) wr.heap.size _ (0 + 0) _ (by rfl) (own_mod2 K3.out ((Mod.refl _ _).alloc _) (fun _ _ q => q)) (some ⟨w3.heap.size, 0, none⟩) 3 3 [0, 0, 0] (by rfl) (by rfl) (fun _ => ⟨w3.heap.size, 0, rfl, by simp, fun i u hu => by rw [Nat.zero_add]; exact (one3_new w3 i u hu)⟩) (by omega) (by simp; omega) ?_; intro v4 w4 hown4 hgrow4; have J4 := Lib.hid (show Same wr w4 from (J3.out.alloc _).grown hgrow4 (fun k hk hl => by have := owns_ge K3.out k hk; omega)); have K4 := Lib.hid hown4; have f00 := (J4.out.cell hEl (fun q => q) 0).trans e0; clear hown4 hgrow4))
    obtain ⟨gn, cn, rfl, hgn, hgnl, m0, m1, m2⟩ := row3_of (ns := []) (n := 0) rfl (by have hh := K4.out; simp only [List.nil_append, Nat.zero_add] at hh; exact hh)
    change w4.cell? ⟨gn, 0, none⟩ = some (.int .i64 0) at m0
    change w4.cell? ⟨gn, 1, none⟩ = some (.int .i64 0) at m1
    change w4.cell? ⟨gn, 2, none⟩ = some (.int .i64 0) at m2
    have JW := Lib.hid (JE.out.same J4.out)
    have hE4 := Nat.lt_of_lt_of_le hEl J4.out.size
    have HD4 := Lib.hid (HD.out.same JW.out)
    have hs4 := JW.out.size
    have HFL := Lib.hid (show ∀ i, F i → i < w.heap.size from by obtain ⟨_, _, _, _, _, _, hx⟩ := HD.out; exact hx.fl)
    have hgF : ¬ F gn := fun z => by have := HFL.out gn z; have := JE.out.size; omega
    have hEF : ¬ F E := fun z => by have := HFL.out E z; have := HE.out; omega
    clear K3 K4 OE e0 e1 e2 f0 hE3 hs3 J3 HR1
    go_wp2_with fail
    exact HR.out _ _ ⟨0, [], true, D, F, rfl, (by unfold DoR; rw [if_neg HQ.out]; exact ⟨rfl, rfl, rfl, rfl⟩), HD4.out, fun y => .inl, JW.out.mono (fun _ _ q => q.elim), rfl, by omega, Int.le_refl _, by omega⟩

set_option maxHeartbeats 16000000 in
theorem rdo_13 (h : Dq F w p D) (hB : D.vols.length ≤ 1000) (hC : D.ch.length ≤ 50000) (hb : 0 ≤ D.births ∧ D.births ≤ 100000) (n0 : Int) (a1 a2 : Option Addr) (c1 c2 : Nat) (hn0 : J64 n0) (hr : RowAt w a1 (([n0] : List Int).map (Value.int .i64))) (hr2 : RowAt w a2 (([] : List (List UInt8)).map strV)) :
    Calls Tryz.prog 21 #[bp p, rordV ⟨13, [n0], []⟩ a1 a2 c1 c2] w fun e w' => RDo F w p D ⟨13, [n0], []⟩ e w' := by
  refine opq fun R HR => ?_
  have HD := Lib.hid h
  have HRN := Lib.hid hr
  have HQ := Lib.hid (show ¬ (([] : List (List UInt8)).all (fun t => decide (t.length ≤ 512)) = false) by simp)
  have BE := Lib.hid (Blk.new w #[.int .i64 14, .slice a1 1 c1, .slice a2 0 c2] 64)
  have JE := Lib.hid (show Same w (w.alloc (.cells #[.int .i64 14, .slice a1 1 c1, .slice a2 0 c2] 64)) from (Mod.refl _ _).alloc _)
  unfold bp rordV
  clear h hr hr2
  show Calls Tryz.prog 21 #[_, .agg #[.int .i64 14, .slice a1 1 c1, .slice a2 0 c2]] w R
  go_enter Tryz.func21, Tryz.ntmps21
  go_wp2_with fail
  obtain ⟨E, hE⟩ : ∃ E, w.heap.size = E := ⟨_, rfl⟩
  rw [hE] at BE ⊢
  obtain ⟨w2, hw2⟩ : ∃ w2, (w.alloc (.cells #[.int .i64 14, .slice a1 1 c1, .slice a2 0 c2] 64)) = w2 := ⟨_, rfl⟩
  rw [hw2] at BE JE ⊢
  have e0 := BE.out.at_ (i := 0) _ rfl
  have e1 := BE.out.at_ (i := 1) _ rfl
  have e2 := BE.out.at_ (i := 2) _ rfl
  have hEl := BE.out.lt
  have HE := Lib.hid hE
  clear hw2 hE
  go_loopw [7] (fun ii wr => ∃ j : Nat, j ≤ 0 ∧ ii = .int .i64 j ∧ wr = w2) (fun ii _ => 0 - (intOf ii).toNat)
  case atStart => exact ⟨0, Nat.zero_le _, rfl, rfl⟩
  case round =>
    obtain ⟨j, hj, rfl, rfl⟩ := hrel
    obtain rfl : j = 0 := by omega
    have OE := Lib.hid (show (wr.alloc (.cells #[] 3)).ownsRow wr.heap.size 3 1 (.slice (some ⟨wr.heap.size, 0, none⟩) 0 0) 0 [] from ⟨rfl, .inr ⟨_, 0, #[], rfl, Nat.le_refl _, heap_new _ _, Nat.le_refl _, by unfold maxLen; omega, rfl, rfl⟩⟩)
    have HR1 := Lib.hid (show RowAt (wr.alloc (.cells #[] 3)) a1 (([n0] : List Int).map (Value.int .i64)) from (HRN.out.same JE.out).same ((Mod.refl _ _).alloc _))
    go_upto_region 7 with (first | (at_builtin; refine wpList_append_in (by rfl) (.tmp 26) (.tmp 28) (by rfl) wr.heap.size _ 0 [] (by rfl) OE.out a1 1 c1 [n0] (by rfl) (by rfl) HR1.out (by omega) (by simp) ?_; intro v3 w3 hown3 hgrow3; have J3 := Lib.hid (show Same wr w3 from ((Mod.refl (fun _ => False) wr).alloc _).grown hgrow3 (fun k hk hl => by have := owns_ge OE.out k hk; omega)); have K3 := Lib.hid hown3; have f0 := (J3.out.cell hEl (fun q => q) 0).trans e0; have hE3 := Nat.lt_of_lt_of_le hEl J3.out.size; have hs3 := J3.out.size; clear hown3 hgrow3) | (at_builtin; refine wpList_append_in (by rfl) (.tmp 29) (.tmp 30) (by rfl) wr.heap.size _ (0 + 1) _ (by rfl) (own_mod2 K3.out ((Mod.refl _ _).alloc _) (fun _ _ q => q)) (some ⟨w3.heap.size, 0, none⟩) 3 3 [0, 0, 0] (by rfl) (by rfl) (fun _ => ⟨w3.heap.size, 0, rfl, by simp, fun i u hu => by rw [Nat.zero_add]; exact (one3_new w3 i u hu)⟩) (by omega) (by simp; omega) ?_; intro v4 w4 hown4 hgrow4; have J4 := Lib.hid (show Same wr w4 from (J3.out.alloc _).grown hgrow4 (fun k hk hl => by have := owns_ge K3.out k hk; omega)); have K4 := Lib.hid hown4; have f00 := (J4.out.cell hEl (fun q => q) 0).trans e0; clear hown4 hgrow4))
    obtain ⟨gn, cn, rfl, hgn, hgnl, m0, m1, m2⟩ := row3_of (ns := [n0]) (n := 1) rfl (by have hh := K4.out; simp only [List.nil_append, Nat.zero_add] at hh; exact hh)
    change w4.cell? ⟨gn, 0, none⟩ = some (.int .i64 n0) at m0
    change w4.cell? ⟨gn, 1, none⟩ = some (.int .i64 0) at m1
    change w4.cell? ⟨gn, 2, none⟩ = some (.int .i64 0) at m2
    have JW := Lib.hid (JE.out.same J4.out)
    have hE4 := Nat.lt_of_lt_of_le hEl J4.out.size
    have HD4 := Lib.hid (HD.out.same JW.out)
    have hs4 := JW.out.size
    have HFL := Lib.hid (show ∀ i, F i → i < w.heap.size from by obtain ⟨_, _, _, _, _, _, hx⟩ := HD.out; exact hx.fl)
    have hgF : ¬ F gn := fun z => by have := HFL.out gn z; have := JE.out.size; omega
    have hEF : ¬ F E := fun z => by have := HFL.out E z; have := HE.out; omega
    clear K3 K4 OE e0 e1 e2 f0 hE3 hs3 J3 HR1
    go_wp2_with fail
    exact HR.out _ _ ⟨0, [], false, D, F, rfl, (by unfold DoR; rw [if_neg HQ.out]; exact ⟨rfl, rfl, rfl, rfl⟩), HD4.out, fun y => .inl, JW.out.mono (fun _ _ q => q.elim), rfl, by omega, Int.le_refl _, by omega⟩

set_option maxHeartbeats 16000000 in
theorem rdo_14 (h : Dq F w p D) (hB : D.vols.length ≤ 1000) (hC : D.ch.length ≤ 50000) (hb : 0 ≤ D.births ∧ D.births ≤ 100000) (t0 t1 t2 : List UInt8) (a1 a2 : Option Addr) (c1 c2 : Nat) (ht0 : t0.length ≤ 512) (ht1 : t1.length ≤ 512) (ht2 : t2.length ≤ 512) (hr : RowAt w a1 (([] : List Int).map (Value.int .i64))) (hr2 : RowAt w a2 (([t0, t1, t2] : List (List UInt8)).map strV)) :
    Calls Tryz.prog 21 #[bp p, rordV ⟨14, [], [t0, t1, t2]⟩ a1 a2 c1 c2] w fun e w' => RDo F w p D ⟨14, [], [t0, t1, t2]⟩ e w' := by
  refine opq fun R HR => ?_
  have HD := Lib.hid h
  have HRN := Lib.hid hr
  have HQ := Lib.hid (show ¬ (([t0, t1, t2] : List (List UInt8)).all (fun t => decide (t.length ≤ 512)) = false) by simp [ht0, ht1, ht2])
  have BE := Lib.hid (Blk.new w #[.int .i64 15, .slice a1 0 c1, .slice a2 3 c2] 64)
  have JE := Lib.hid (show Same w (w.alloc (.cells #[.int .i64 15, .slice a1 0 c1, .slice a2 3 c2] 64)) from (Mod.refl _ _).alloc _)
  obtain ⟨tb, to_, rfl, htb, htc⟩ := hr2 (by simp)
  have HTC := Lib.hid htc
  clear htc
  unfold bp rordV
  clear h hr hr2
  show Calls Tryz.prog 21 #[_, .agg #[.int .i64 15, .slice a1 0 c1, .slice (some ⟨tb, to_, none⟩) 3 c2]] w R
  go_enter Tryz.func21, Tryz.ntmps21
  go_wp2_with fail
  obtain ⟨E, hE⟩ : ∃ E, w.heap.size = E := ⟨_, rfl⟩
  rw [hE] at BE ⊢
  obtain ⟨w2, hw2⟩ : ∃ w2, (w.alloc (.cells #[.int .i64 15, .slice a1 0 c1, .slice (some ⟨tb, to_, none⟩) 3 c2] 64)) = w2 := ⟨_, rfl⟩
  rw [hw2] at BE JE ⊢
  have e0 := BE.out.at_ (i := 0) _ rfl
  have e1 := BE.out.at_ (i := 1) _ rfl
  have e2 := BE.out.at_ (i := 2) _ rfl
  have hEl := BE.out.lt
  have HE := Lib.hid hE
  clear hw2 hE
  go_loopw [7] (fun ii wr => ∃ j : Nat, j ≤ 3 ∧ ii = .int .i64 j ∧ wr = w2) (fun ii _ => 3 - (intOf ii).toNat)
  case atStart => exact ⟨0, Nat.zero_le _, rfl, rfl⟩
  case round =>
    obtain ⟨j, hj, rfl, rfl⟩ := hrel
    by_cases hlt : j < 3
    · obtain ⟨tx, htx, hxl⟩ : ∃ tx, (([t0, t1, t2] : List (List UInt8)))[j]? = some tx ∧ tx.length ≤ 512 := by
        rcases (show j = 0 ∨ j = 1 ∨ j = 2 by omega) with rfl | rfl | rfl
        · exact ⟨t0, rfl, ht0⟩
        · exact ⟨t1, rfl, ht1⟩
        · exact ⟨t2, rfl, ht2⟩
      have s0 := (JE.out.cell htb (fun q => q) (to_ + j)).trans (HTC.out j (strV tx) (by rw [List.getElem?_map, htx]; rfl))
      have hbs := bytes_size tx
      unfold strV at s0
      have hsl := Nat.lt_of_lt_of_le htb JE.out.size
      have hd : decide ((512 : Int) < (tx.length : Int)) = false := decide_eq_false (by omega)
      clear htx
      clear HR
      go_wp2_with fail
      go_roundw
      case rel => exact ⟨j + 1, by first | omega | exact Nat.le_refl _, by first | exact rfl | go_num, by first | exact rfl | trivial⟩
      case measure => first | (simp [intOf]; done) | (simp [intOf]; omega)
    obtain rfl : j = 3 := by omega
    have OE := Lib.hid (show (wr.alloc (.cells #[] 3)).ownsRow wr.heap.size 3 1 (.slice (some ⟨wr.heap.size, 0, none⟩) 0 0) 0 [] from ⟨rfl, .inr ⟨_, 0, #[], rfl, Nat.le_refl _, heap_new _ _, Nat.le_refl _, by unfold maxLen; omega, rfl, rfl⟩⟩)
    have HR1 := Lib.hid (show RowAt (wr.alloc (.cells #[] 3)) a1 (([] : List Int).map (Value.int .i64)) from (HRN.out.same JE.out).same ((Mod.refl _ _).alloc _))
    go_upto_region 7 with (first | (at_builtin; refine wpList_append_in (by rfl) (.tmp 26) (.tmp 28) (by rfl) wr.heap.size _ 0 [] (by rfl) OE.out a1 0 c1 [] (by rfl) (by rfl) HR1.out (by omega) (by simp) ?_; intro v3 w3 hown3 hgrow3; have J3 := Lib.hid (show Same wr w3 from ((Mod.refl (fun _ => False) wr).alloc _).grown hgrow3 (fun k hk hl => by have := owns_ge OE.out k hk; omega)); have K3 := Lib.hid hown3; have f0 := (J3.out.cell hEl (fun q => q) 0).trans e0; have hE3 := Nat.lt_of_lt_of_le hEl J3.out.size; have hs3 := J3.out.size; clear hown3 hgrow3) | (at_builtin; refine wpList_append_in (by rfl) (.tmp 29) (.tmp 30) (by rfl) wr.heap.size _ (0 + 0) _ (by rfl) (own_mod2 K3.out ((Mod.refl _ _).alloc _) (fun _ _ q => q)) (some ⟨w3.heap.size, 0, none⟩) 3 3 [0, 0, 0] (by rfl) (by rfl) (fun _ => ⟨w3.heap.size, 0, rfl, by simp, fun i u hu => by rw [Nat.zero_add]; exact (one3_new w3 i u hu)⟩) (by omega) (by simp; omega) ?_; intro v4 w4 hown4 hgrow4; have J4 := Lib.hid (show Same wr w4 from (J3.out.alloc _).grown hgrow4 (fun k hk hl => by have := owns_ge K3.out k hk; omega)); have K4 := Lib.hid hown4; have f00 := (J4.out.cell hEl (fun q => q) 0).trans e0; clear hown4 hgrow4))
    obtain ⟨gn, cn, rfl, hgn, hgnl, m0, m1, m2⟩ := row3_of (ns := []) (n := 0) rfl (by have hh := K4.out; simp only [List.nil_append, Nat.zero_add] at hh; exact hh)
    change w4.cell? ⟨gn, 0, none⟩ = some (.int .i64 0) at m0
    change w4.cell? ⟨gn, 1, none⟩ = some (.int .i64 0) at m1
    change w4.cell? ⟨gn, 2, none⟩ = some (.int .i64 0) at m2
    have JW := Lib.hid (JE.out.same J4.out)
    have hE4 := Nat.lt_of_lt_of_le hEl J4.out.size
    have HD4 := Lib.hid (HD.out.same JW.out)
    have hs4 := JW.out.size
    have HFL := Lib.hid (show ∀ i, F i → i < w.heap.size from by obtain ⟨_, _, _, _, _, _, hx⟩ := HD.out; exact hx.fl)
    have hgF : ¬ F gn := fun z => by have := HFL.out gn z; have := JE.out.size; omega
    have hEF : ¬ F E := fun z => by have := HFL.out E z; have := HE.out; omega
    clear K3 K4 OE e0 e1 e2 f0 hE3 hs3 J3 HR1
    go_wp2_with fail
    exact HR.out _ _ ⟨0, [], false, D, F, rfl, (by unfold DoR; rw [if_neg HQ.out]; exact ⟨rfl, rfl, rfl, rfl⟩), HD4.out, fun y => .inl, JW.out.mono (fun _ _ q => q.elim), rfl, by omega, Int.le_refl _, by omega⟩
end
end Go.Proofs.YtlcepoagpocadaaGreatDoor
