import Derived.Test.YthkpmmkddgjhmaaMillU
import Derived.Test.YthkpmmkddgjhmaaMillK
set_option linter.unusedSimpArgs false
set_option linter.unusedVariables false
namespace Go.Proofs.Ythkpmmkddgjhmaa
open Go Go.RowKit
theorem RowNew.same {w w' w'' : World} {a : Option Addr} {vs : List Value} (h : RowNew w w' a vs) (M : Same w' w'') : RowNew w w'' a vs := by
  intro q
  obtain ⟨b, o, ha, hl, hb, hc⟩ := h q
  exact ⟨b, o, ha, hl, Nat.lt_of_lt_of_le hb M.size, fun i v hv => (M.cell hb (fun q => q) _).trans (hc i v hv)⟩
theorem RowNew.past {w w' w'' : World} {Z : Nat} {a : Option Addr} {vs : List Value} (h : RowNew w w' a vs) (hZ : Z < w.heap.size) (hs : w'.heap.size ≤ w''.heap.size) (hc' : ∀ b, b ≠ Z → ∀ i, w''.cell? ⟨b, i, none⟩ = w'.cell? ⟨b, i, none⟩) : RowAt w'' a vs := by
  intro q
  obtain ⟨b, o, ha, hl, hb, hc⟩ := h q
  exact ⟨b, o, ha, by omega, fun i v hv => (hc' b (by omega) _).trans (hc i v hv)⟩
theorem form_fin {w w3 : World} {Z : Nat} (M : Same w w3) (B0 : Blk w3 Z #[.int .i64 0, .slice none 0 0, .slice none 0 0]) (g0 : w.heap.size ≤ Z) (kv nv dv : Value) :
    ∃ W, (((w3.setCell ⟨Z, 0, none⟩ kv).setCell ⟨Z, 1, none⟩ nv).setCell ⟨Z, 2, none⟩ dv) = W ∧
      W.cell? ⟨Z, 0, none⟩ = some kv ∧ W.cell? ⟨Z, 1, none⟩ = some nv ∧ W.cell? ⟨Z, 2, none⟩ = some dv ∧ Same w W ∧ w3.heap.size ≤ W.heap.size ∧ ∀ b, b ≠ Z → ∀ i, W.cell? ⟨b, i, none⟩ = w3.cell? ⟨b, i, none⟩ := by
  have q0 : ∀ k : Nat, (⟨Z, k, none⟩ : Addr).block < w.heap.size → False := fun k q => by
    have q' : Z < w.heap.size := q
    omega
  have B := ((B0.set 0 kv).set 1 nv).set 2 dv
  refine ⟨_, rfl, B.at_ (i := 0) kv rfl, B.at_ (i := 1) nv rfl, B.at_ (i := 2) dv rfl, ((M.setCell (q0 0) kv).setCell (q0 1) nv).setCell (q0 2) dv, by simp, fun b hb i => ?_⟩
  have hne : ∀ k, (⟨Z, k, none⟩ : Addr) ≠ ⟨b, i, none⟩ := fun k e => hb (by injection e with e1; exact e1.symm)
  rw [World.cell?_setCell_other _ _ _ _ (hne 2), World.cell?_setCell_other _ _ _ _ (hne 1), World.cell?_setCell_other _ _ _ _ (hne 0)]
theorem wB_eq : ∀ i, i < 15 → ∀ j, j < 15 → ((wB i).toList == (wB j).toList) = decide (i = j) := by decide +kernel
theorem words_get (i : Nat) (h : i < 15) : words16.toArray[i + 1]? = some (.string (wB i)) := by
  have h : i = 0 ∨ i = 1 ∨ i = 2 ∨ i = 3 ∨ i = 4 ∨ i = 5 ∨ i = 6 ∨ i = 7 ∨ i = 8 ∨ i = 9 ∨ i = 10 ∨ i = 11 ∨ i = 12 ∨ i = 13 ∨ i = 14 := by omega
  rcases h with rfl | rfl | rfl | rfl | rfl | rfl | rfl | rfl | rfl | rfl | rfl | rfl | rfl | rfl | rfl <;> rfl
set_option maxRecDepth 10000 in
set_option maxHeartbeats 4000000 in
theorem form_of (j : Nat) (hj : j < 15) (x : Value) (ns ts : List Value) (w : World) (h : ∀ wz, Calls Try.prog 26 #[.iface (kT j) x] wz (PartsV wz ns ts)) :
    Calls Try.prog 11 #[.iface (kT j) x] w fun e w' => ∃ a1 c1 a2 c2, e = .returned (.agg #[.int .i64 ((j : Int) + 1), .slice a1 ns.length c1, .slice a2 ts.length c2]) ∧ RowAt w' a1 ns ∧ RowAt w' a2 ts ∧ Same w w' := by
  refine opq fun R HR => ?_
  have HN := Lib.hid (fun wz => numbers_of _ ns ts wz h)
  have HD := Lib.hid (fun wz => data_of _ ns ts wz h)
  have HWs := Lib.hid (fun wz => words_any wz)
  have HWd := Lib.hid (fun wz => word_any j hj x wz)
  have HE := Lib.hid (fun i hi => wB_eq i hi j hj)
  have HG := Lib.hid (fun i hi => words_get i hi)
  clear h
  generalize wB j = wj at *
  go_enter Try.func11, Try.ntmps11
  go_wp2_with fail
  refine (HWs.out _).mono ?_
  have B0 := Lib.hid (Blk.new w #[.int .i64 0, .slice none 0 0, .slice none 0 0] 45)
  have M0 := Lib.hid ((Mod.refl (fun _ => False) w).alloc (.cells #[.int .i64 0, .slice none 0 0, .slice none 0 0] 45))
  generalize w.alloc _ = W at *
  generalize hZ : w.heap.size = Z at B0 ⊢
  rintro e w1 ⟨g, rfl, hB, hM⟩
  have BW := Lib.hid hB
  have B1 := Lib.hid (B0.out.mod hM (fun q => q))
  have M1 := Lib.hid (M0.out.same hM)
  have hgl := hB.lt
  clear hB hM B0 M0 HWs
  go_wp2_with fail
  go_loopw [5, 3] (fun i k wr => ∃ q : Nat, q ≤ 15 ∧ i = .int .i64 ((q : Int) + 1) ∧ k = .int .i64 (if j < q then (j : Int) + 1 else 0) ∧ Same w1 wr) (fun i _ _ => 16 - (intOf i).toNat)
  case atStart => exact ⟨0, by omega, rfl, by rw [if_neg (by omega)], Mod.refl _ _⟩
  case round =>
    obtain ⟨q, hq, rfl, rfl, M⟩ := hrel
    by_cases hlt : q < 15
    · have hcw := (M.cell hgl (fun q => q) (q + 1)).trans ((BW.out.cell (q + 1)).trans (HG.out q hlt))
      have hgr : g < wr.heap.size := Nat.lt_of_lt_of_le hgl M.size
      have hq1 : (0 : Int) ≤ (q : Int) + 1 := by omega
      have hq2 : (q : Int) + 1 < 16 := by omega
      have hqn : ((q : Int) + 1).toNat = q + 1 := by omega
      have HEq := HE.out q hlt
      have J5 := Lib.hid M
      have HK := Lib.hid (show (if j < q + 1 then (j : Int) + 1 else 0) = if decide (q = j) = true then (q : Int) + 1 else if j < q then (j : Int) + 1 else 0 by
        by_cases e : q = j
        · subst e; rw [if_pos (by omega), if_pos (by simp)]
        · rw [if_neg (show ¬ decide (q = j) = true by simpa using e)]
          by_cases e2 : j < q
          · rw [if_pos (by omega), if_pos e2]
          · rw [if_neg (by omega), if_neg e2])
      generalize (if j < q then (j : Int) + 1 else 0) = kv at *
      generalize wB q = wq at *
      clear M
      have h : j = 0 ∨ j = 1 ∨ j = 2 ∨ j = 3 ∨ j = 4 ∨ j = 5 ∨ j = 6 ∨ j = 7 ∨ j = 8 ∨ j = 9 ∨ j = 10 ∨ j = 11 ∨ j = 12 ∨ j = 13 ∨ j = 14 := by omega
      rcases h with h | h | h | h | h | h | h | h | h | h | h | h | h | h | h
      · have hk : kT j = 90 := by rw [h]; rfl
        rw [hk] at *
        have hwf : wF j = 71 := by rw [h]; rfl
        rw [hwf] at HWd
        clear h hk hwf
        go_wp2_with fail
        go_region_held3 (fun w' => w'.cell? ⟨g, q + 1, none⟩ = some (.string wq)) (first | exact hcw | assumption | go_keep) ((
          first
          | (go_at_call 71; refine (HWd.out _).mono ?_; rintro e w9 ⟨_, rfl, rfl, M9⟩; have K6 := Lib.hid (J5.out.drew.same M9); have M10 := (Mod.refl (fun _ => False) wr).drew.same M9; have p1 := (M10.cell hgr (fun q => q) _).trans hcw; clear M9 M10)))
        all_goals go_wp2
        all_goals
          go_roundw
          case rel => exact ⟨q + 1, by omega, by go_num, by first | rw [HK.out, if_pos (decide_eq_true (by assumption))] | rw [HK.out, if_neg (by simp; assumption)], K6.out⟩
          case measure => simp [intOf]; omega
      · have hk : kT j = 92 := by rw [h]; rfl
        rw [hk] at *
        have hwf : wF j = 72 := by rw [h]; rfl
        rw [hwf] at HWd
        clear h hk hwf
        go_wp2_with fail
        go_region_held3 (fun w' => w'.cell? ⟨g, q + 1, none⟩ = some (.string wq)) (first | exact hcw | assumption | go_keep) ((
          first
          | (go_at_call 72; refine (HWd.out _).mono ?_; rintro e w9 ⟨_, rfl, rfl, M9⟩; have K6 := Lib.hid (J5.out.drew.same M9); have M10 := (Mod.refl (fun _ => False) wr).drew.same M9; have p1 := (M10.cell hgr (fun q => q) _).trans hcw; clear M9 M10)))
        all_goals go_wp2
        all_goals
          go_roundw
          case rel => exact ⟨q + 1, by omega, by go_num, by first | rw [HK.out, if_pos (decide_eq_true (by assumption))] | rw [HK.out, if_neg (by simp; assumption)], K6.out⟩
          case measure => simp [intOf]; omega
      · have hk : kT j = 94 := by rw [h]; rfl
        rw [hk] at *
        have hwf : wF j = 73 := by rw [h]; rfl
        rw [hwf] at HWd
        clear h hk hwf
        go_wp2_with fail
        go_region_held3 (fun w' => w'.cell? ⟨g, q + 1, none⟩ = some (.string wq)) (first | exact hcw | assumption | go_keep) ((
          first
          | (go_at_call 73; refine (HWd.out _).mono ?_; rintro e w9 ⟨_, rfl, rfl, M9⟩; have K6 := Lib.hid (J5.out.drew.same M9); have M10 := (Mod.refl (fun _ => False) wr).drew.same M9; have p1 := (M10.cell hgr (fun q => q) _).trans hcw; clear M9 M10)))
        all_goals go_wp2
        all_goals
          go_roundw
          case rel => exact ⟨q + 1, by omega, by go_num, by first | rw [HK.out, if_pos (decide_eq_true (by assumption))] | rw [HK.out, if_neg (by simp; assumption)], K6.out⟩
          case measure => simp [intOf]; omega
      · have hk : kT j = 95 := by rw [h]; rfl
        rw [hk] at *
        have hwf : wF j = 74 := by rw [h]; rfl
        rw [hwf] at HWd
        clear h hk hwf
        go_wp2_with fail
        go_region_held3 (fun w' => w'.cell? ⟨g, q + 1, none⟩ = some (.string wq)) (first | exact hcw | assumption | go_keep) ((
          first
          | (go_at_call 74; refine (HWd.out _).mono ?_; rintro e w9 ⟨_, rfl, rfl, M9⟩; have K6 := Lib.hid (J5.out.drew.same M9); have M10 := (Mod.refl (fun _ => False) wr).drew.same M9; have p1 := (M10.cell hgr (fun q => q) _).trans hcw; clear M9 M10)))
        all_goals go_wp2
        all_goals
          go_roundw
          case rel => exact ⟨q + 1, by omega, by go_num, by first | rw [HK.out, if_pos (decide_eq_true (by assumption))] | rw [HK.out, if_neg (by simp; assumption)], K6.out⟩
          case measure => simp [intOf]; omega
      · have hk : kT j = 96 := by rw [h]; rfl
        rw [hk] at *
        have hwf : wF j = 75 := by rw [h]; rfl
        rw [hwf] at HWd
        clear h hk hwf
        go_wp2_with fail
        go_region_held3 (fun w' => w'.cell? ⟨g, q + 1, none⟩ = some (.string wq)) (first | exact hcw | assumption | go_keep) ((
          first
          | (go_at_call 75; refine (HWd.out _).mono ?_; rintro e w9 ⟨_, rfl, rfl, M9⟩; have K6 := Lib.hid (J5.out.drew.same M9); have M10 := (Mod.refl (fun _ => False) wr).drew.same M9; have p1 := (M10.cell hgr (fun q => q) _).trans hcw; clear M9 M10)))
        all_goals go_wp2
        all_goals
          go_roundw
          case rel => exact ⟨q + 1, by omega, by go_num, by first | rw [HK.out, if_pos (decide_eq_true (by assumption))] | rw [HK.out, if_neg (by simp; assumption)], K6.out⟩
          case measure => simp [intOf]; omega
      · have hk : kT j = 97 := by rw [h]; rfl
        rw [hk] at *
        have hwf : wF j = 76 := by rw [h]; rfl
        rw [hwf] at HWd
        clear h hk hwf
        go_wp2_with fail
        go_region_held3 (fun w' => w'.cell? ⟨g, q + 1, none⟩ = some (.string wq)) (first | exact hcw | assumption | go_keep) ((
          first
          | (go_at_call 76; refine (HWd.out _).mono ?_; rintro e w9 ⟨_, rfl, rfl, M9⟩; have K6 := Lib.hid (J5.out.drew.same M9); have M10 := (Mod.refl (fun _ => False) wr).drew.same M9; have p1 := (M10.cell hgr (fun q => q) _).trans hcw; clear M9 M10)))
        all_goals go_wp2
        all_goals
          go_roundw
          case rel => exact ⟨q + 1, by omega, by go_num, by first | rw [HK.out, if_pos (decide_eq_true (by assumption))] | rw [HK.out, if_neg (by simp; assumption)], K6.out⟩
          case measure => simp [intOf]; omega
      · have hk : kT j = 82 := by rw [h]; rfl
        rw [hk] at *
        have hwf : wF j = 67 := by rw [h]; rfl
        rw [hwf] at HWd
        clear h hk hwf
        go_wp2_with fail
        go_region_held3 (fun w' => w'.cell? ⟨g, q + 1, none⟩ = some (.string wq)) (first | exact hcw | assumption | go_keep) ((
          first
          | (go_at_call 67; refine (HWd.out _).mono ?_; rintro e w9 ⟨_, rfl, rfl, M9⟩; have K6 := Lib.hid (J5.out.drew.same M9); have M10 := (Mod.refl (fun _ => False) wr).drew.same M9; have p1 := (M10.cell hgr (fun q => q) _).trans hcw; clear M9 M10)))
        all_goals go_wp2
        all_goals
          go_roundw
          case rel => exact ⟨q + 1, by omega, by go_num, by first | rw [HK.out, if_pos (decide_eq_true (by assumption))] | rw [HK.out, if_neg (by simp; assumption)], K6.out⟩
          case measure => simp [intOf]; omega
      · have hk : kT j = 86 := by rw [h]; rfl
        rw [hk] at *
        have hwf : wF j = 69 := by rw [h]; rfl
        rw [hwf] at HWd
        clear h hk hwf
        go_wp2_with fail
        go_region_held3 (fun w' => w'.cell? ⟨g, q + 1, none⟩ = some (.string wq)) (first | exact hcw | assumption | go_keep) ((
          first
          | (go_at_call 69; refine (HWd.out _).mono ?_; rintro e w9 ⟨_, rfl, rfl, M9⟩; have K6 := Lib.hid (J5.out.drew.same M9); have M10 := (Mod.refl (fun _ => False) wr).drew.same M9; have p1 := (M10.cell hgr (fun q => q) _).trans hcw; clear M9 M10)))
        all_goals go_wp2
        all_goals
          go_roundw
          case rel => exact ⟨q + 1, by omega, by go_num, by first | rw [HK.out, if_pos (decide_eq_true (by assumption))] | rw [HK.out, if_neg (by simp; assumption)], K6.out⟩
          case measure => simp [intOf]; omega
      · have hk : kT j = 83 := by rw [h]; rfl
        rw [hk] at *
        have hwf : wF j = 68 := by rw [h]; rfl
        rw [hwf] at HWd
        clear h hk hwf
        go_wp2_with fail
        go_region_held3 (fun w' => w'.cell? ⟨g, q + 1, none⟩ = some (.string wq)) (first | exact hcw | assumption | go_keep) ((
          first
          | (go_at_call 68; refine (HWd.out _).mono ?_; rintro e w9 ⟨_, rfl, rfl, M9⟩; have K6 := Lib.hid (J5.out.drew.same M9); have M10 := (Mod.refl (fun _ => False) wr).drew.same M9; have p1 := (M10.cell hgr (fun q => q) _).trans hcw; clear M9 M10)))
        all_goals go_wp2
        all_goals
          go_roundw
          case rel => exact ⟨q + 1, by omega, by go_num, by first | rw [HK.out, if_pos (decide_eq_true (by assumption))] | rw [HK.out, if_neg (by simp; assumption)], K6.out⟩
          case measure => simp [intOf]; omega
      · have hk : kT j = 68 := by rw [h]; rfl
        rw [hk] at *
        have hwf : wF j = 62 := by rw [h]; rfl
        rw [hwf] at HWd
        clear h hk hwf
        go_wp2_with fail
        go_region_held3 (fun w' => w'.cell? ⟨g, q + 1, none⟩ = some (.string wq)) (first | exact hcw | assumption | go_keep) ((
          first
          | (go_at_call 62; refine (HWd.out _).mono ?_; rintro e w9 ⟨_, rfl, rfl, M9⟩; have K6 := Lib.hid (J5.out.drew.same M9); have M10 := (Mod.refl (fun _ => False) wr).drew.same M9; have p1 := (M10.cell hgr (fun q => q) _).trans hcw; clear M9 M10)))
        all_goals go_wp2
        all_goals
          go_roundw
          case rel => exact ⟨q + 1, by omega, by go_num, by first | rw [HK.out, if_pos (decide_eq_true (by assumption))] | rw [HK.out, if_neg (by simp; assumption)], K6.out⟩
          case measure => simp [intOf]; omega
      · have hk : kT j = 70 := by rw [h]; rfl
        rw [hk] at *
        have hwf : wF j = 63 := by rw [h]; rfl
        rw [hwf] at HWd
        clear h hk hwf
        go_wp2_with fail
        go_region_held3 (fun w' => w'.cell? ⟨g, q + 1, none⟩ = some (.string wq)) (first | exact hcw | assumption | go_keep) ((
          first
          | (go_at_call 63; refine (HWd.out _).mono ?_; rintro e w9 ⟨_, rfl, rfl, M9⟩; have K6 := Lib.hid (J5.out.drew.same M9); have M10 := (Mod.refl (fun _ => False) wr).drew.same M9; have p1 := (M10.cell hgr (fun q => q) _).trans hcw; clear M9 M10)))
        all_goals go_wp2
        all_goals
          go_roundw
          case rel => exact ⟨q + 1, by omega, by go_num, by first | rw [HK.out, if_pos (decide_eq_true (by assumption))] | rw [HK.out, if_neg (by simp; assumption)], K6.out⟩
          case measure => simp [intOf]; omega
      · have hk : kT j = 71 := by rw [h]; rfl
        rw [hk] at *
        have hwf : wF j = 64 := by rw [h]; rfl
        rw [hwf] at HWd
        clear h hk hwf
        go_wp2_with fail
        go_region_held3 (fun w' => w'.cell? ⟨g, q + 1, none⟩ = some (.string wq)) (first | exact hcw | assumption | go_keep) ((
          first
          | (go_at_call 64; refine (HWd.out _).mono ?_; rintro e w9 ⟨_, rfl, rfl, M9⟩; have K6 := Lib.hid (J5.out.drew.same M9); have M10 := (Mod.refl (fun _ => False) wr).drew.same M9; have p1 := (M10.cell hgr (fun q => q) _).trans hcw; clear M9 M10)))
        all_goals go_wp2
        all_goals
          go_roundw
          case rel => exact ⟨q + 1, by omega, by go_num, by first | rw [HK.out, if_pos (decide_eq_true (by assumption))] | rw [HK.out, if_neg (by simp; assumption)], K6.out⟩
          case measure => simp [intOf]; omega
      · have hk : kT j = 72 := by rw [h]; rfl
        rw [hk] at *
        have hwf : wF j = 65 := by rw [h]; rfl
        rw [hwf] at HWd
        clear h hk hwf
        go_wp2_with fail
        go_region_held3 (fun w' => w'.cell? ⟨g, q + 1, none⟩ = some (.string wq)) (first | exact hcw | assumption | go_keep) ((
          first
          | (go_at_call 65; refine (HWd.out _).mono ?_; rintro e w9 ⟨_, rfl, rfl, M9⟩; have K6 := Lib.hid (J5.out.drew.same M9); have M10 := (Mod.refl (fun _ => False) wr).drew.same M9; have p1 := (M10.cell hgr (fun q => q) _).trans hcw; clear M9 M10)))
        all_goals go_wp2
        all_goals
          go_roundw
          case rel => exact ⟨q + 1, by omega, by go_num, by first | rw [HK.out, if_pos (decide_eq_true (by assumption))] | rw [HK.out, if_neg (by simp; assumption)], K6.out⟩
          case measure => simp [intOf]; omega
      · have hk : kT j = 74 := by rw [h]; rfl
        rw [hk] at *
        have hwf : wF j = 66 := by rw [h]; rfl
        rw [hwf] at HWd
        clear h hk hwf
        go_wp2_with fail
        go_region_held3 (fun w' => w'.cell? ⟨g, q + 1, none⟩ = some (.string wq)) (first | exact hcw | assumption | go_keep) ((
          first
          | (go_at_call 66; refine (HWd.out _).mono ?_; rintro e w9 ⟨_, rfl, rfl, M9⟩; have K6 := Lib.hid (J5.out.drew.same M9); have M10 := (Mod.refl (fun _ => False) wr).drew.same M9; have p1 := (M10.cell hgr (fun q => q) _).trans hcw; clear M9 M10)))
        all_goals go_wp2
        all_goals
          go_roundw
          case rel => exact ⟨q + 1, by omega, by go_num, by first | rw [HK.out, if_pos (decide_eq_true (by assumption))] | rw [HK.out, if_neg (by simp; assumption)], K6.out⟩
          case measure => simp [intOf]; omega
      · have hk : kT j = 88 := by rw [h]; rfl
        rw [hk] at *
        have hwf : wF j = 70 := by rw [h]; rfl
        rw [hwf] at HWd
        clear h hk hwf
        go_wp2_with fail
        go_region_held3 (fun w' => w'.cell? ⟨g, q + 1, none⟩ = some (.string wq)) (first | exact hcw | assumption | go_keep) ((
          first
          | (go_at_call 70; refine (HWd.out _).mono ?_; rintro e w9 ⟨_, rfl, rfl, M9⟩; have K6 := Lib.hid (J5.out.drew.same M9); have M10 := (Mod.refl (fun _ => False) wr).drew.same M9; have p1 := (M10.cell hgr (fun q => q) _).trans hcw; clear M9 M10)))
        all_goals go_wp2
        all_goals
          go_roundw
          case rel => exact ⟨q + 1, by omega, by go_num, by first | rw [HK.out, if_pos (decide_eq_true (by assumption))] | rw [HK.out, if_neg (by simp; assumption)], K6.out⟩
          case measure => simp [intOf]; omega
    · obtain rfl : q = 15 := by omega
      have hkv : (if j < 15 then (j : Int) + 1 else 0) = (j : Int) + 1 := if_pos hj
      rw [hkv]
      have J5 := Lib.hid (M1.out.same M)
      have B5 := Lib.hid (B1.out.mod M (fun q => q))
      have hZr0 : Z < wr.heap.size := B5.out.lt
      clear M M1 B1 BW
      go_wp2_with fail
      refine (HN.out _).mono ?_
      rintro e w2 ⟨a1, c1, rfl, hr1, M2⟩
      have K1 := Lib.hid hr1
      have J6 := Lib.hid (J5.out.same M2)
      have B6 := Lib.hid (B5.out.mod M2 (fun q => q))
      clear hr1 M2 J5 B5
      go_wp2_with fail
      refine (HD.out _).mono ?_
      rintro e w3 ⟨a2, c2, rfl, hr2, M3⟩
      have K2 := Lib.hid hr2
      have J7 := Lib.hid (J6.out.same M3)
      have B7 := Lib.hid (B6.out.mod M3 (fun q => q))
      have K3 := Lib.hid (RowNew.same K1.out M3)
      have hZ2 : Z < w2.heap.size := B6.out.lt
      have hZr : Z < wr.heap.size := hZr0
      clear hr2 M3 J6 B6 K1
      have hc0 := B7.out.cell
      have hf0 := B7.out.free
      have hl0 := B7.out.lt
      go_wp2_with fail
      obtain ⟨Wz, he, e0, e1, e2, hS, hsz, hcz⟩ := form_fin J7.out B7.out (by omega) (.int .i64 ((j : Int) + 1)) (.slice a1 ns.length c1) (.slice a2 ts.length c2)
      rw [he]
      have HS := Lib.hid hS
      have HN' := Lib.hid (K3.out.past hZr hsz hcz)
      have HD' := Lib.hid (K2.out.past hZ2 hsz hcz)
      clear he hS hsz hcz hc0 hf0
      exact bodyPost_ret (v := .agg #[.int .i64 ((j : Int) + 1), .slice a1 ns.length c1, .slice a2 ts.length c2]) (by simp [results, Try.results11, go_sem, e0, e1, e2]) rfl (HR.out _ _ ⟨_, _, _, _, rfl, HN'.out, HD'.out, HS.out⟩)
end Go.Proofs.Ythkpmmkddgjhmaa
