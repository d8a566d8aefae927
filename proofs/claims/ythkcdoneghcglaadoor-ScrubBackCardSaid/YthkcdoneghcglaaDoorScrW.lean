import Derived.Test.YthkcdoneghcglaaDoorScrD
import Derived.Deep.RegionHeld3
set_option linter.unusedSimpArgs false
set_option linter.unusedVariables false
/- scrub.Against. -/
namespace Go.Proofs.YthkcdoneghcglaaDoor
open Go Go.RowKit
abbrev fC (p : Int × Int) : List Value := [.int .i64 p.1, .int .i64 p.2]
/-- Finds in memory. -/
def Fds (w : World) (a : Option Addr) (F : List (Int × Int)) : Prop := 0 < F.length → ∃ b o, a = some ⟨b, o, none⟩ ∧ b < w.heap.size ∧ ∀ (i : Nat) (p : Int × Int), F[i]? = some p → w.cell? ⟨b, o + i * 2, none⟩ = some (.int .i64 p.1) ∧ w.cell? ⟨b, o + i * 2 + 1, none⟩ = some (.int .i64 p.2)
theorem two_new (w : World) (p : Int × Int) (t : TypeId) : ∀ j u, (fC p)[j]? = some u → (w.alloc (.cells #[.int .i64 p.1, .int .i64 p.2] t)).cell? (Addr.add ⟨w.heap.size, 0, none⟩ j) = some u := by
  intro j u hj
  match j, hj with
  | 0, hj => simp at hj; subst hj; simp [Addr.add]
  | 1, hj => simp at hj; subst hj; simp [Addr.add, go_sem]
theorem flat2_get : ∀ (L : List (Int × Int)) (i j : Nat) (x : Int × Int), L[i]? = some x → j < 2 → (L.flatMap fC)[i * 2 + j]? = (fC x)[j]?
  | [], i, j, x, h, _ => by simp at h
  | y :: L, 0, j, x, h, hj => by
    simp at h; subst h
    rw [List.flatMap_cons, List.getElem?_append_left (by simp; omega)]; simp
  | y :: L, i + 1, j, x, h, hj => by
    rw [List.flatMap_cons, List.getElem?_append_right (by simp; omega)]
    have := flat2_get L i j x (by simpa using h) hj
    rw [← this]; congr 1; simp; omega
theorem fds_own {w : World} {base : Nat} {ty : TypeId} {v : Value} {L : List (Int × Int)} (h : w.ownsRow base ty 2 v L.length (L.flatMap fC)) : ∃ a c, v = .slice a L.length c ∧ Fds w a L := by
  by_cases hp : 0 < L.length
  · obtain ⟨g, cap, hv, hb, hc, hr⟩ := RowV.of_owns h hp
    refine ⟨some ⟨g, 0, none⟩, cap, hv, fun _ => ⟨g, 0, rfl, hr.lt, fun i x hx => ?_⟩⟩
    have hi : i < L.length := (List.getElem?_eq_some_iff.1 hx).1
    have key : ∀ j, j < 2 → w.cell? ⟨g, 0 + i * 2 + j, none⟩ = some ((L.flatMap fC).getD (i * 2 + j) undef) := fun j hj => by
      rw [Nat.zero_add]; exact hr.cell (i * 2 + j) (by omega)
    have get : ∀ j (v : Value), j < 2 → (fC x)[j]? = some v → w.cell? ⟨g, 0 + i * 2 + j, none⟩ = some v := fun j v hj hv => by
      rw [key j hj, List.getD_eq_getElem?_getD, flat2_get L i j x hx hj, hv]; rfl
    exact ⟨get 0 _ (by omega) rfl, get 1 _ (by omega) rfl⟩
  · have h0 : L.length = 0 := by omega
    rcases h.2 with ⟨hv, _⟩ | ⟨g, cap, cur, hv, _⟩
    · exact ⟨none, 0, by rw [hv, h0], fun q => absurd q hp⟩
    · exact ⟨some ⟨g, 0, none⟩, cap, hv, fun q => absurd q hp⟩
theorem sms_if {w : World} {b o c : Nat} {L : List Sm} (h : Sms w (some ⟨b, o + 4, none⟩) L) (hc : c = 0 → L.length = 0) : Sms w (if c = 0 then some ⟨b, o, none⟩ else some ⟨b, o + 4, none⟩) L := by
  by_cases q : c = 0
  · intro hp; have := hc q; omega
  · rw [if_neg q]; exact h
def lenS : Value → Nat
  | .slice _ n _ => n
  | _ => 0
set_option maxRecDepth 10000 in
set_option maxHeartbeats 4000000 in
theorem against_any (a1 a2 : Option Addr) (c1 c2 : Nat) (A0 B0 : List Sm) (w : World) (hl1 : A0.length ≤ 1000) (hl2 : B0.length ≤ 1000) (hk1 : A0.length ≤ c1) (hk2 : B0.length ≤ c2) (hm1 : c1 ≤ 9223372036854775807) (hm2 : c2 ≤ 9223372036854775807) (hI1 : Sms w a1 A0) (hI2 : Sms w a2 B0) :
    Calls Tryd.prog 10 #[.slice a1 A0.length c1, .slice a2 B0.length c2] w fun e w' => (∃ a c, e = .returned (.slice a (if goodL A0 && goodL B0 then ag A0 B0 else []).length c) ∧ Fds w' a (if goodL A0 && goodL B0 then ag A0 B0 else [])) ∧ Same w w' := by
  refine opq fun R HR => ?_
  have H1 := Lib.hid hI1
  have H2 := Lib.hid hI2
  have HG1 := Lib.hid (isGood_any a1 c1 A0 w (by omega) hI1)
  have HG2 := Lib.hid (fun (w' : World) (M : Same w w') => isGood_any a2 c2 B0 w' (by omega) (hI2.same M))
  clear hI1 hI2
  obtain ⟨i0, hi, hz0, hz1, hz2⟩ := info_parts info32
  have I0 := Lib.hid hi
  have Z0 := Lib.hid hz0
  have Z1 := Lib.hid hz1
  have Z2 := Lib.hid hz2
  clear hi hz0 hz1 hz2
  obtain ⟨n1, hn1⟩ : ∃ n, A0.length = n := ⟨_, rfl⟩
  obtain ⟨n2, hn2⟩ : ∃ n, B0.length = n := ⟨_, rfl⟩
  rw [hn1] at hl1 hk1 HG1 ⊢
  rw [hn2] at hl2 hk2 HG2 ⊢
  have HN1 := Lib.hid hn1
  have HN2 := Lib.hid hn2
  clear hn1 hn2
  go_enter Tryd.func10, Tryd.ntmps10
  go_wp2_with fail
  refine HG1.out.mono ?_
  rintro e w1 ⟨rfl, M1⟩
  have K1 := Lib.hid M1
  clear M1 HG1
  cases hg1 : goodL A0 with
  | false =>
    rw [hg1, Bool.false_and] at HR
    go_wp2
    exact HR.out _ _ ⟨⟨none, 0, rfl, fun h => by simp at h⟩, K1.out⟩
  | true =>
    go_wp2_with fail
    refine (HG2.out _ K1.out).mono ?_
    rintro e w2 ⟨rfl, M2⟩
    have K2 := Lib.hid (K1.out.same M2)
    clear M2 HG2
    cases hg2 : goodL B0 with
    | false =>
      rw [hg2, Bool.and_false] at HR
      go_wp2
      exact HR.out _ _ ⟨⟨none, 0, rfl, fun h => by simp at h⟩, K2.out⟩
    | true =>
      rw [hg1, hg2] at HR
      have HR1 := Lib.hid (show ∀ (e : Ending) (w' : World), (∃ a c, e = .returned (.slice a (ag A0 B0).length c) ∧ Fds w' a (ag A0 B0)) ∧ Same w w' → R e w' from HR.out)
      have KS1 := Lib.hid (H1.out.same K2.out)
      have KS2 := Lib.hid (H2.out.same K2.out)
      clear HR hg1 hg2 K1 H1 H2
      go_wp2_with fail
      go_loopw [0, 1, 4] (fun v u o wr => ∃ (A B : List Sm) (F : List (Int × Int)) (a b : Option Addr) (c d : Nat), v = .slice a A.length c ∧ u = .slice b B.length d ∧ A.length ≤ c ∧ B.length ≤ d ∧ c ≤ 9223372036854775807 ∧ d ≤ 9223372036854775807 ∧ A.length ≤ 1000 ∧ B.length ≤ 1000 ∧ F.length + A.length + B.length ≤ 2000 ∧ F ++ ag A B = ag A0 B0 ∧ Sms w2 a A ∧ Sms w2 b B ∧ wr.ownsRow w2.heap.size 32 2 o F.length (F.flatMap fC) ∧ Same w2 wr) (fun v u _ _ => lenS v + lenS u)
      case atStart => exact ⟨A0, B0, [], a1, a2, c1, c2, by rw [HN1.out], by rw [HN2.out], by rw [HN1.out]; exact hk1, by rw [HN2.out]; exact hk2, by omega, by omega, by rw [HN1.out]; omega, by rw [HN2.out]; omega, by rw [HN1.out, HN2.out]; simp; omega, rfl, KS1.out, KS2.out, World.ownsRow_nil _ _ _ _, Mod.refl _ _⟩
      case round =>
        obtain ⟨A, B, F, a, b, c, d, rfl, rfl, hc, hd, hcm, hdm, hA, hB, hF, hag, hS1, hS2, hown, hM⟩ := hrel
        have J1 := Lib.hid hS1
        have J2 := Lib.hid hS2
        have J3 := Lib.hid hown
        have J4 := Lib.hid hM
        have HA := Lib.hid hag
        have hsz : w2.heap.size ≤ wr.heap.size := hM.size
        clear hS1 hS2 hown hM hag
        cases A with
        | nil =>
          cases B with
          | nil =>
            rw [ag_nil, List.append_nil] at HA
            have hr := HA.out
            rw [← hr] at HR1
            obtain ⟨a', c', rfl, hfds⟩ := fds_own J3.out
            have HFd := Lib.hid hfds
            clear hfds hr HA
            go_wp2
            exact HR1.out _ _ ⟨⟨_, _, rfl, HFd.out⟩, K2.out.same J4.out⟩
          | cons y B =>
            obtain ⟨b2, o2, rfl, hb2, hc2⟩ := J2.out (by simp)
            have hy4 := hc2 0 y rfl
            rw [Nat.zero_mul, Nat.add_zero] at hy4
            have T2 := Lib.hid (J2.out.tail)
            obtain ⟨m2, hm2⟩ : ∃ m, B.length = m := ⟨_, rfl⟩
            have HM2 := Lib.hid hm2
            clear hc2
            obtain ⟨yc, yt, ys, yh⟩ := y
            have HY := Lib.hid hy4
            clear hy4
            have hz2 : (((m2 : Int) + 1) == 0) = false := beq_eq_false_iff_ne.2 (by omega)
            have hp2 : decide (((m2 : Int) + 1) > 0) = true := decide_eq_true (by omega)
            have hq2 : decide (0 < (m2 : Int) + 1) = true := decide_eq_true (by omega)
            simp only [List.length_cons, List.length_nil, hm2] at hA hB hF hc hd ⊢
            obtain ⟨d, rfl⟩ : ∃ c', d = c' + 1 := ⟨d - 1, by omega⟩
            clear hm2
            go_wp2_with fail
            have MF := Lib.hid ((Mod.refl (fun _ => False) wr).alloc (.cells #[.int .i64 0, .int .i64 0] 32))
            have BF := Lib.hid (Blk.new wr #[.int .i64 0, .int .i64 0] 32)
            generalize wr.alloc _ = WA at *
            obtain ⟨y0, y1, y2, y3⟩ := cell4_same (J4.out.same MF.out) hb2 HY.out
            dsimp only at y0 y1 y2 y3
            go_big_quiet (fail)
            have MF1 := Lib.hid (MF.out.drewN nq)
            have BF1 := Lib.hid (BF.out.drewN nq)
            clear y0 y1 y2 y3
            generalize hWg : World.drewN _ nq = WB1 at *
            clear hWg MF BF
            try clear nq
            go_wp2_with fail
            obtain ⟨y0, y1, y2, y3⟩ := cell4_same (J4.out.same MF1.out) hb2 HY.out
            dsimp only at y0 y1 y2 y3
            go_big_quiet (fail)
            have MF2 := Lib.hid (MF1.out.drewN nq)
            have BF2 := Lib.hid (BF1.out.drewN nq)
            clear y0 y1 y2 y3
            generalize hWg : World.drewN _ nq = WB2 at *
            clear hWg MF1 BF1
            try clear nq
            go_wp2_with fail
            obtain ⟨y0, y1, y2, y3⟩ := cell4_same (J4.out.same MF2.out) hb2 HY.out
            dsimp only at y0 y1 y2 y3
            have BS := Lib.hid (((BF2.out.set 0 (.int .i64 (yc))).set 1 (.int .i64 (2))).drew)
            have MS := Lib.hid ((((MF2.out.setCell (p := ⟨wr.heap.size, 0, none⟩) (fun q => by dsimp only at q; omega) (.int .i64 (yc))).setCell (p := ⟨wr.heap.size, 1, none⟩) (fun q => by dsimp only at q; omega) (.int .i64 (2)))).drew)
            have hk2 := (cell4_same (J4.out.same MS.out) hb2 HY.out).1
            dsimp only at hk2
            have hc := BF2.out.cell
            have hf := BF2.out.free
            refine wp_region_held_drew (S := (fun w' => w'.cell? ⟨b2, o2, none⟩ = some (.int .i64 yc))) (by kernel_rfl) (by (try dsimp only); first | assumption | exact hk2) (fun hHeld => ?_)
            refine wpAnyH_take (i := 0) (v := ?_) rfl (by kernel_rfl) (by kernel_rfl) (by kernel_rfl) (fun _ _ _ h => h) (Or.inl ⟨by rfl, ?_⟩) (by assumption) ?_
            rotate_left
            · intro w hSw
              try dsimp only at hSw
              go_simp
              try with_reducible rfl
            try simp only [List.getElem_toArray, List.getElem_cons_succ, List.getElem_cons_zero, Act.put, List.setIfInBounds_toArray, List.set_cons_zero, List.set_cons_succ]
            refine wpAnyH_take (i := 1) (v := ?_) rfl (by kernel_rfl) (by kernel_rfl) (by kernel_rfl) (fun _ _ _ h => h) (Or.inl ⟨by rfl, ?_⟩) (by assumption) ?_
            rotate_left
            · intro w hSw
              try dsimp only at hSw
              go_simp
              try with_reducible rfl
            try simp only [List.getElem_toArray, List.getElem_cons_succ, List.getElem_cons_zero, Act.put, List.setIfInBounds_toArray, List.set_cons_zero, List.set_cons_succ]
            refine wpAnyH_take (i := 2) (v := ?_) rfl (by kernel_rfl) (by kernel_rfl) (by kernel_rfl) (fun _ _ _ h => h) (Or.inl ⟨by rfl, ?_⟩) (by assumption) ?_
            rotate_left
            · intro w hSw
              try dsimp only at hSw
              go_simp
              try with_reducible rfl
            try simp only [List.getElem_toArray, List.getElem_cons_succ, List.getElem_cons_zero, Act.put, List.setIfInBounds_toArray, List.set_cons_zero, List.set_cons_succ]
            refine wpAnyH_take (i := 3) (v := ?_) rfl (by kernel_rfl) (by kernel_rfl) (by kernel_rfl) (fun _ _ _ h => h) (Or.inl ⟨by rfl, ?_⟩) (by assumption) ?_
            rotate_left
            · intro w hSw
              try dsimp only at hSw
              go_simp
              try with_reducible rfl
            try simp only [List.getElem_toArray, List.getElem_cons_succ, List.getElem_cons_zero, Act.put, List.setIfInBounds_toArray, List.set_cons_zero, List.set_cons_succ]
            refine wpAnyH_take (i := 4) (v := ?_) rfl (by kernel_rfl) (by kernel_rfl) (by kernel_rfl) (fun _ _ _ h => h) (Or.inl ⟨by rfl, ?_⟩) (by assumption) ?_
            rotate_left
            · intro w hSw
              try dsimp only at hSw
              go_simp
              try with_reducible rfl
            try simp only [List.getElem_toArray, List.getElem_cons_succ, List.getElem_cons_zero, Act.put, List.setIfInBounds_toArray, List.set_cons_zero, List.set_cons_succ]
            refine wpAnyH_take (i := 5) (v := ?_) rfl (by kernel_rfl) (by kernel_rfl) (by kernel_rfl) (fun _ _ _ h => h) (Or.inl ⟨by rfl, ?_⟩) (by assumption) ?_
            rotate_left
            · intro w hSw
              try dsimp only at hSw
              go_simp
              try with_reducible rfl
            try simp only [List.getElem_toArray, List.getElem_cons_succ, List.getElem_cons_zero, Act.put, List.setIfInBounds_toArray, List.set_cons_zero, List.set_cons_succ]
            refine wpAnyH_take (i := 6) (v := ?_) rfl (by kernel_rfl) (by kernel_rfl) (by kernel_rfl) (fun _ _ _ h => h) (Or.inl ⟨by rfl, ?_⟩) (by assumption) ?_
            rotate_left
            · intro w hSw
              try dsimp only at hSw
              have hle : (1 : Int) ≤ (m2 : Int) + 1 := by omega
              go_simp
              try with_reducible rfl
            try simp only [List.getElem_toArray, List.getElem_cons_succ, List.getElem_cons_zero, Act.put, List.setIfInBounds_toArray, List.set_cons_zero, List.set_cons_succ]
            refine wpAnyH_ready (rs := [7]) (by kernel_rfl) (by simp) ?_
            refine AllReadyH.cons rfl (fun Kc hKc => ?_) AllReadyH.nil
            go_simp
            refine hKc.out _ _ (by (try dsimp only); first | assumption | exact hk2) (fun hHeld => ?_)
            clear hKc Kc
            try simp only [List.getElem_toArray, List.getElem_cons_succ, List.getElem_cons_zero, Act.put, List.setIfInBounds_toArray, List.set_cons_zero, List.set_cons_succ]
            refine wpAnyH_take (i := 8) (v := ?_) rfl (by kernel_rfl) (by kernel_rfl) (by kernel_rfl) (fun _ _ _ h => h) (Or.inl ⟨by rfl, ?_⟩) (by assumption) ?_
            rotate_left
            · intro w hSw
              try dsimp only at hSw
              go_simp
              try with_reducible rfl
            try simp only [List.getElem_toArray, List.getElem_cons_succ, List.getElem_cons_zero, Act.put, List.setIfInBounds_toArray, List.set_cons_zero, List.set_cons_succ]
            refine wpAnyH_done (by kernel_rfl) ?_ _
            have K9 := Lib.hid (J4.out.same MS.out)
            have O9 := Lib.hid (owns_same J3.out MS.out)
            have hc9 := BS.out.cell
            have hs9 := K9.out.size
            clear hc hf hHeld
            generalize World.drew _ = W9 at *
            go_wp2_with (at_builtin; refine wpList_append_lies _ rfl (.tmp 88) (.tmp 90) 26 rfl w2.heap.size 32 i0 (.agg #[.int .i64 0, .int .i64 0]) 2 16 Tryd.underlying26 I0.out Z0.out Z1.out Z2.out rfl (by decide) _ _ _ rfl (O9.out.alloc _) ⟨W9.heap.size, 0, none⟩ 1 1 (fC (yc, 2)) rfl rfl (two_new W9 (yc, 2) _) (fun u hu => (by simp at hu; rcases hu with rfl | rfl <;> rfl)) (by decide) (by unfold maxLen; omega) (by omega) (by simp only [World.size_alloc]; omega) (W9.heap.size + 1) (by simp) ?_; intro g cp w6 hown' hgrow hat hgl)
            have P1 := Lib.hid (same_append K9.out O9.out hgrow)
            have P2 := Lib.hid hown'
            clear hown' hgrow hat
            go_roundw
            have HM1' : (0 : Nat) = 0 := rfl
            have HM2' : B.length = m2 := HM2.out
            case rel =>
              refine ⟨[], B, F ++ [(yc, 2)], _, _, _, _, rfl, by rw [HM2.out], ?_, ?_, ?_, ?_, ?_, ?_, ?_, by rw [List.append_assoc, ← HA.out, ag_r]; rfl, ?_, ?_, by rw [List.length_append, List.flatMap_append]; exact P2.out, P1.out⟩
              all_goals first | omega | (simp only [List.length_append, List.length_singleton, List.length_cons, List.length_nil, HM1', HM2']; omega) | skip
              · exact J1.out
              · exact sms_if T2.out (by intro h; have := HM2.out; omega)
            case measure => simp [lenS]; try omega
        | cons x A =>
          cases B with
          | nil =>
            obtain ⟨b1, o1, rfl, hb1, hc1⟩ := J1.out (by simp)
            have hx4 := hc1 0 x rfl
            rw [Nat.zero_mul, Nat.add_zero] at hx4
            have T1 := Lib.hid (J1.out.tail)
            obtain ⟨m1, hm1⟩ : ∃ m, A.length = m := ⟨_, rfl⟩
            have HM1 := Lib.hid hm1
            clear hc1
            obtain ⟨xc, xt, xs, xh⟩ := x
            have HX := Lib.hid hx4
            clear hx4
            have hz1 : (((m1 : Int) + 1) == 0) = false := beq_eq_false_iff_ne.2 (by omega)
            have hp1 : decide (((m1 : Int) + 1) > 0) = true := decide_eq_true (by omega)
            have hq1 : decide (0 < (m1 : Int) + 1) = true := decide_eq_true (by omega)
            simp only [List.length_cons, List.length_nil, hm1] at hA hB hF hc hd ⊢
            obtain ⟨c, rfl⟩ : ∃ c', c = c' + 1 := ⟨c - 1, by omega⟩
            clear hm1
            go_wp2_with fail
            have MF := Lib.hid ((Mod.refl (fun _ => False) wr).alloc (.cells #[.int .i64 0, .int .i64 0] 32))
            have BF := Lib.hid (Blk.new wr #[.int .i64 0, .int .i64 0] 32)
            generalize wr.alloc _ = WA at *
            obtain ⟨x0, x1, x2, x3⟩ := cell4_same (J4.out.same MF.out) hb1 HX.out
            dsimp only at x0 x1 x2 x3
            go_big_quiet (fail)
            have MF1 := Lib.hid (MF.out.drewN nq)
            have BF1 := Lib.hid (BF.out.drewN nq)
            clear x0 x1 x2 x3
            generalize hWg : World.drewN _ nq = WB1 at *
            clear hWg MF BF
            try clear nq
            go_wp2_with fail
            obtain ⟨x0, x1, x2, x3⟩ := cell4_same (J4.out.same MF1.out) hb1 HX.out
            dsimp only at x0 x1 x2 x3
            have BS := Lib.hid (((BF1.out.set 0 (.int .i64 (xc))).set 1 (.int .i64 (1))).drew)
            have MS := Lib.hid ((((MF1.out.setCell (p := ⟨wr.heap.size, 0, none⟩) (fun q => by dsimp only at q; omega) (.int .i64 (xc))).setCell (p := ⟨wr.heap.size, 1, none⟩) (fun q => by dsimp only at q; omega) (.int .i64 (1)))).drew)
            have hk1 := (cell4_same (J4.out.same MS.out) hb1 HX.out).1
            dsimp only at hk1
            have hc := BF1.out.cell
            have hf := BF1.out.free
            refine wp_region_held_drew (S := (fun w' => w'.cell? ⟨b1, o1, none⟩ = some (.int .i64 xc))) (by kernel_rfl) (by (try dsimp only); first | assumption | exact hk1) (fun hHeld => ?_)
            refine wpAnyH_take (i := 0) (v := ?_) rfl (by kernel_rfl) (by kernel_rfl) (by kernel_rfl) (fun _ _ _ h => h) (Or.inl ⟨by rfl, ?_⟩) (by assumption) ?_
            rotate_left
            · intro w hSw
              try dsimp only at hSw
              go_simp
              try with_reducible rfl
            try simp only [List.getElem_toArray, List.getElem_cons_succ, List.getElem_cons_zero, Act.put, List.setIfInBounds_toArray, List.set_cons_zero, List.set_cons_succ]
            refine wpAnyH_take (i := 1) (v := ?_) rfl (by kernel_rfl) (by kernel_rfl) (by kernel_rfl) (fun _ _ _ h => h) (Or.inl ⟨by rfl, ?_⟩) (by assumption) ?_
            rotate_left
            · intro w hSw
              try dsimp only at hSw
              go_simp
              try with_reducible rfl
            try simp only [List.getElem_toArray, List.getElem_cons_succ, List.getElem_cons_zero, Act.put, List.setIfInBounds_toArray, List.set_cons_zero, List.set_cons_succ]
            refine wpAnyH_take (i := 2) (v := ?_) rfl (by kernel_rfl) (by kernel_rfl) (by kernel_rfl) (fun _ _ _ h => h) (Or.inl ⟨by rfl, ?_⟩) (by assumption) ?_
            rotate_left
            · intro w hSw
              try dsimp only at hSw
              go_simp
              try with_reducible rfl
            try simp only [List.getElem_toArray, List.getElem_cons_succ, List.getElem_cons_zero, Act.put, List.setIfInBounds_toArray, List.set_cons_zero, List.set_cons_succ]
            refine wpAnyH_take (i := 3) (v := ?_) rfl (by kernel_rfl) (by kernel_rfl) (by kernel_rfl) (fun _ _ _ h => h) (Or.inl ⟨by rfl, ?_⟩) (by assumption) ?_
            rotate_left
            · intro w hSw
              try dsimp only at hSw
              go_simp
              try with_reducible rfl
            try simp only [List.getElem_toArray, List.getElem_cons_succ, List.getElem_cons_zero, Act.put, List.setIfInBounds_toArray, List.set_cons_zero, List.set_cons_succ]
            refine wpAnyH_take (i := 4) (v := ?_) rfl (by kernel_rfl) (by kernel_rfl) (by kernel_rfl) (fun _ _ _ h => h) (Or.inl ⟨by rfl, ?_⟩) (by assumption) ?_
            rotate_left
            · intro w hSw
              try dsimp only at hSw
              go_simp
              try with_reducible rfl
            try simp only [List.getElem_toArray, List.getElem_cons_succ, List.getElem_cons_zero, Act.put, List.setIfInBounds_toArray, List.set_cons_zero, List.set_cons_succ]
            refine wpAnyH_take (i := 5) (v := ?_) rfl (by kernel_rfl) (by kernel_rfl) (by kernel_rfl) (fun _ _ _ h => h) (Or.inl ⟨by rfl, ?_⟩) (by assumption) ?_
            rotate_left
            · intro w hSw
              try dsimp only at hSw
              go_simp
              try with_reducible rfl
            try simp only [List.getElem_toArray, List.getElem_cons_succ, List.getElem_cons_zero, Act.put, List.setIfInBounds_toArray, List.set_cons_zero, List.set_cons_succ]
            refine wpAnyH_take (i := 6) (v := ?_) rfl (by kernel_rfl) (by kernel_rfl) (by kernel_rfl) (fun _ _ _ h => h) (Or.inl ⟨by rfl, ?_⟩) (by assumption) ?_
            rotate_left
            · intro w hSw
              try dsimp only at hSw
              have hle : (1 : Int) ≤ (m1 : Int) + 1 := by omega
              go_simp
              try with_reducible rfl
            try simp only [List.getElem_toArray, List.getElem_cons_succ, List.getElem_cons_zero, Act.put, List.setIfInBounds_toArray, List.set_cons_zero, List.set_cons_succ]
            refine wpAnyH_ready (rs := [7]) (by kernel_rfl) (by simp) ?_
            refine AllReadyH.cons rfl (fun Kc hKc => ?_) AllReadyH.nil
            go_simp
            refine hKc.out _ _ (by (try dsimp only); first | assumption | exact hk1) (fun hHeld => ?_)
            clear hKc Kc
            try simp only [List.getElem_toArray, List.getElem_cons_succ, List.getElem_cons_zero, Act.put, List.setIfInBounds_toArray, List.set_cons_zero, List.set_cons_succ]
            refine wpAnyH_take (i := 8) (v := ?_) rfl (by kernel_rfl) (by kernel_rfl) (by kernel_rfl) (fun _ _ _ h => h) (Or.inl ⟨by rfl, ?_⟩) (by assumption) ?_
            rotate_left
            · intro w hSw
              try dsimp only at hSw
              go_simp
              try with_reducible rfl
            try simp only [List.getElem_toArray, List.getElem_cons_succ, List.getElem_cons_zero, Act.put, List.setIfInBounds_toArray, List.set_cons_zero, List.set_cons_succ]
            refine wpAnyH_done (by kernel_rfl) ?_ _
            have K9 := Lib.hid (J4.out.same MS.out)
            have O9 := Lib.hid (owns_same J3.out MS.out)
            have hc9 := BS.out.cell
            have hs9 := K9.out.size
            clear hc hf hHeld
            generalize World.drew _ = W9 at *
            go_wp2_with (at_builtin; refine wpList_append_lies _ rfl (.tmp 88) (.tmp 90) 26 rfl w2.heap.size 32 i0 (.agg #[.int .i64 0, .int .i64 0]) 2 16 Tryd.underlying26 I0.out Z0.out Z1.out Z2.out rfl (by decide) _ _ _ rfl (O9.out.alloc _) ⟨W9.heap.size, 0, none⟩ 1 1 (fC (xc, 1)) rfl rfl (two_new W9 (xc, 1) _) (fun u hu => (by simp at hu; rcases hu with rfl | rfl <;> rfl)) (by decide) (by unfold maxLen; omega) (by omega) (by simp only [World.size_alloc]; omega) (W9.heap.size + 1) (by simp) ?_; intro g cp w6 hown' hgrow hat hgl)
            have P1 := Lib.hid (same_append K9.out O9.out hgrow)
            have P2 := Lib.hid hown'
            clear hown' hgrow hat
            go_roundw
            have HM1' : A.length = m1 := HM1.out
            have HM2' : (0 : Nat) = 0 := rfl
            case rel =>
              refine ⟨A, [], F ++ [(xc, 1)], _, _, _, _, by rw [HM1.out], rfl, ?_, ?_, ?_, ?_, ?_, ?_, ?_, by rw [List.append_assoc, ← HA.out, ag_l]; rfl, ?_, ?_, by rw [List.length_append, List.flatMap_append]; exact P2.out, P1.out⟩
              all_goals first | omega | (simp only [List.length_append, List.length_singleton, List.length_cons, List.length_nil, HM1', HM2']; omega) | skip
              · exact sms_if T1.out (by intro h; have := HM1.out; omega)
              · exact J2.out
            case measure => simp [lenS]; try omega
          | cons y B =>
            obtain ⟨b1, o1, rfl, hb1, hc1⟩ := J1.out (by simp)
            have hx4 := hc1 0 x rfl
            rw [Nat.zero_mul, Nat.add_zero] at hx4
            have T1 := Lib.hid (J1.out.tail)
            obtain ⟨m1, hm1⟩ : ∃ m, A.length = m := ⟨_, rfl⟩
            have HM1 := Lib.hid hm1
            clear hc1
            obtain ⟨xc, xt, xs, xh⟩ := x
            have HX := Lib.hid hx4
            clear hx4
            have hz1 : (((m1 : Int) + 1) == 0) = false := beq_eq_false_iff_ne.2 (by omega)
            have hp1 : decide (((m1 : Int) + 1) > 0) = true := decide_eq_true (by omega)
            have hq1 : decide (0 < (m1 : Int) + 1) = true := decide_eq_true (by omega)
            simp only [List.length_cons, List.length_nil, hm1] at hA hB hF hc hd ⊢
            obtain ⟨c, rfl⟩ : ∃ c', c = c' + 1 := ⟨c - 1, by omega⟩
            clear hm1
            obtain ⟨b2, o2, rfl, hb2, hc2⟩ := J2.out (by simp)
            have hy4 := hc2 0 y rfl
            rw [Nat.zero_mul, Nat.add_zero] at hy4
            have T2 := Lib.hid (J2.out.tail)
            obtain ⟨m2, hm2⟩ : ∃ m, B.length = m := ⟨_, rfl⟩
            have HM2 := Lib.hid hm2
            clear hc2
            obtain ⟨yc, yt, ys, yh⟩ := y
            have HY := Lib.hid hy4
            clear hy4
            have hz2 : (((m2 : Int) + 1) == 0) = false := beq_eq_false_iff_ne.2 (by omega)
            have hp2 : decide (((m2 : Int) + 1) > 0) = true := decide_eq_true (by omega)
            have hq2 : decide (0 < (m2 : Int) + 1) = true := decide_eq_true (by omega)
            simp only [List.length_cons, List.length_nil, hm2] at hA hB hF hc hd ⊢
            obtain ⟨d, rfl⟩ : ∃ c', d = c' + 1 := ⟨d - 1, by omega⟩
            clear hm2
            go_wp2_with fail
            have MF := Lib.hid ((Mod.refl (fun _ => False) wr).alloc (.cells #[.int .i64 0, .int .i64 0] 32))
            have BF := Lib.hid (Blk.new wr #[.int .i64 0, .int .i64 0] 32)
            generalize wr.alloc _ = WA at *
            obtain ⟨x0, x1, x2, x3⟩ := cell4_same (J4.out.same MF.out) hb1 HX.out
            dsimp only at x0 x1 x2 x3
            obtain ⟨y0, y1, y2, y3⟩ := cell4_same (J4.out.same MF.out) hb2 HY.out
            dsimp only at y0 y1 y2 y3
            by_cases hlt : xc < yc
            · have d1 : decide (xc < yc) = true := decide_eq_true hlt
              go_big_quiet (fail)
              have MF1 := Lib.hid (MF.out.drewN nq)
              have BF1 := Lib.hid (BF.out.drewN nq)
              clear x0 x1 x2 x3
              clear y0 y1 y2 y3
              generalize hWg : World.drewN _ nq = WB1 at *
              clear hWg MF BF
              try clear nq
              go_wp2_with fail
              obtain ⟨x0, x1, x2, x3⟩ := cell4_same (J4.out.same MF1.out) hb1 HX.out
              dsimp only at x0 x1 x2 x3
              obtain ⟨y0, y1, y2, y3⟩ := cell4_same (J4.out.same MF1.out) hb2 HY.out
              dsimp only at y0 y1 y2 y3
              have BS := Lib.hid (((BF1.out.set 0 (.int .i64 (xc))).set 1 (.int .i64 (1))).drew)
              have MS := Lib.hid ((((MF1.out.setCell (p := ⟨wr.heap.size, 0, none⟩) (fun q => by dsimp only at q; omega) (.int .i64 (xc))).setCell (p := ⟨wr.heap.size, 1, none⟩) (fun q => by dsimp only at q; omega) (.int .i64 (1)))).drew)
              have hk1 := (cell4_same (J4.out.same MS.out) hb1 HX.out).1
              dsimp only at hk1
              have hc := BF1.out.cell
              have hf := BF1.out.free
              refine wp_region_held_drew (S := (fun w' => w'.cell? ⟨b1, o1, none⟩ = some (.int .i64 xc))) (by kernel_rfl) (by (try dsimp only); first | assumption | exact hk1) (fun hHeld => ?_)
              refine wpAnyH_take (i := 0) (v := ?_) rfl (by kernel_rfl) (by kernel_rfl) (by kernel_rfl) (fun _ _ _ h => h) (Or.inl ⟨by rfl, ?_⟩) (by assumption) ?_
              rotate_left
              · intro w hSw
                try dsimp only at hSw
                go_simp
                try with_reducible rfl
              try simp only [List.getElem_toArray, List.getElem_cons_succ, List.getElem_cons_zero, Act.put, List.setIfInBounds_toArray, List.set_cons_zero, List.set_cons_succ]
              refine wpAnyH_take (i := 1) (v := ?_) rfl (by kernel_rfl) (by kernel_rfl) (by kernel_rfl) (fun _ _ _ h => h) (Or.inl ⟨by rfl, ?_⟩) (by assumption) ?_
              rotate_left
              · intro w hSw
                try dsimp only at hSw
                go_simp
                try with_reducible rfl
              try simp only [List.getElem_toArray, List.getElem_cons_succ, List.getElem_cons_zero, Act.put, List.setIfInBounds_toArray, List.set_cons_zero, List.set_cons_succ]
              refine wpAnyH_take (i := 2) (v := ?_) rfl (by kernel_rfl) (by kernel_rfl) (by kernel_rfl) (fun _ _ _ h => h) (Or.inl ⟨by rfl, ?_⟩) (by assumption) ?_
              rotate_left
              · intro w hSw
                try dsimp only at hSw
                go_simp
                try with_reducible rfl
              try simp only [List.getElem_toArray, List.getElem_cons_succ, List.getElem_cons_zero, Act.put, List.setIfInBounds_toArray, List.set_cons_zero, List.set_cons_succ]
              refine wpAnyH_take (i := 3) (v := ?_) rfl (by kernel_rfl) (by kernel_rfl) (by kernel_rfl) (fun _ _ _ h => h) (Or.inl ⟨by rfl, ?_⟩) (by assumption) ?_
              rotate_left
              · intro w hSw
                try dsimp only at hSw
                go_simp
                try with_reducible rfl
              try simp only [List.getElem_toArray, List.getElem_cons_succ, List.getElem_cons_zero, Act.put, List.setIfInBounds_toArray, List.set_cons_zero, List.set_cons_succ]
              refine wpAnyH_take (i := 4) (v := ?_) rfl (by kernel_rfl) (by kernel_rfl) (by kernel_rfl) (fun _ _ _ h => h) (Or.inl ⟨by rfl, ?_⟩) (by assumption) ?_
              rotate_left
              · intro w hSw
                try dsimp only at hSw
                go_simp
                try with_reducible rfl
              try simp only [List.getElem_toArray, List.getElem_cons_succ, List.getElem_cons_zero, Act.put, List.setIfInBounds_toArray, List.set_cons_zero, List.set_cons_succ]
              refine wpAnyH_take (i := 5) (v := ?_) rfl (by kernel_rfl) (by kernel_rfl) (by kernel_rfl) (fun _ _ _ h => h) (Or.inl ⟨by rfl, ?_⟩) (by assumption) ?_
              rotate_left
              · intro w hSw
                try dsimp only at hSw
                go_simp
                try with_reducible rfl
              try simp only [List.getElem_toArray, List.getElem_cons_succ, List.getElem_cons_zero, Act.put, List.setIfInBounds_toArray, List.set_cons_zero, List.set_cons_succ]
              refine wpAnyH_take (i := 6) (v := ?_) rfl (by kernel_rfl) (by kernel_rfl) (by kernel_rfl) (fun _ _ _ h => h) (Or.inl ⟨by rfl, ?_⟩) (by assumption) ?_
              rotate_left
              · intro w hSw
                try dsimp only at hSw
                have hle : (1 : Int) ≤ (m1 : Int) + 1 := by omega
                go_simp
                try with_reducible rfl
              try simp only [List.getElem_toArray, List.getElem_cons_succ, List.getElem_cons_zero, Act.put, List.setIfInBounds_toArray, List.set_cons_zero, List.set_cons_succ]
              refine wpAnyH_ready (rs := [7]) (by kernel_rfl) (by simp) ?_
              refine AllReadyH.cons rfl (fun Kc hKc => ?_) AllReadyH.nil
              go_simp
              refine hKc.out _ _ (by (try dsimp only); first | assumption | exact hk1) (fun hHeld => ?_)
              clear hKc Kc
              try simp only [List.getElem_toArray, List.getElem_cons_succ, List.getElem_cons_zero, Act.put, List.setIfInBounds_toArray, List.set_cons_zero, List.set_cons_succ]
              refine wpAnyH_take (i := 8) (v := ?_) rfl (by kernel_rfl) (by kernel_rfl) (by kernel_rfl) (fun _ _ _ h => h) (Or.inl ⟨by rfl, ?_⟩) (by assumption) ?_
              rotate_left
              · intro w hSw
                try dsimp only at hSw
                go_simp
                try with_reducible rfl
              try simp only [List.getElem_toArray, List.getElem_cons_succ, List.getElem_cons_zero, Act.put, List.setIfInBounds_toArray, List.set_cons_zero, List.set_cons_succ]
              refine wpAnyH_done (by kernel_rfl) ?_ _
              have K9 := Lib.hid (J4.out.same MS.out)
              have O9 := Lib.hid (owns_same J3.out MS.out)
              have hc9 := BS.out.cell
              have hs9 := K9.out.size
              clear hc hf hHeld
              generalize World.drew _ = W9 at *
              go_wp2_with (at_builtin; refine wpList_append_lies _ rfl (.tmp 88) (.tmp 90) 26 rfl w2.heap.size 32 i0 (.agg #[.int .i64 0, .int .i64 0]) 2 16 Tryd.underlying26 I0.out Z0.out Z1.out Z2.out rfl (by decide) _ _ _ rfl (O9.out.alloc _) ⟨W9.heap.size, 0, none⟩ 1 1 (fC (xc, 1)) rfl rfl (two_new W9 (xc, 1) _) (fun u hu => (by simp at hu; rcases hu with rfl | rfl <;> rfl)) (by decide) (by unfold maxLen; omega) (by omega) (by simp only [World.size_alloc]; omega) (W9.heap.size + 1) (by simp) ?_; intro g cp w6 hown' hgrow hat hgl)
              have P1 := Lib.hid (same_append K9.out O9.out hgrow)
              have P2 := Lib.hid hown'
              clear hown' hgrow hat
              go_roundw
              have HM1' : A.length = m1 := HM1.out
              have HM2' : B.length = m2 := HM2.out
              case rel =>
                refine ⟨A, ⟨yc, yt, ys, yh⟩ :: B, F ++ [(xc, 1)], _, _, _, _, by rw [HM1.out], by rw [List.length_cons, HM2.out], ?_, ?_, ?_, ?_, ?_, ?_, ?_, by rw [List.append_assoc, ← HA.out, ag_lt _ _ (by exact hlt)]; rfl, ?_, ?_, by rw [List.length_append, List.flatMap_append]; exact P2.out, P1.out⟩
                all_goals first | omega | (simp only [List.length_append, List.length_singleton, List.length_cons, List.length_nil, HM1', HM2']; omega) | skip
                · exact sms_if T1.out (by intro h; have := HM1.out; omega)
                · exact J2.out
              case measure => simp [lenS]; try omega
            · by_cases hgt : yc < xc
              · have d1 : decide (xc < yc) = false := decide_eq_false hlt
                have d2 : decide (yc < xc) = true := decide_eq_true hgt
                go_big_quiet (fail)
                have MF1 := Lib.hid (MF.out.drewN nq)
                have BF1 := Lib.hid (BF.out.drewN nq)
                clear x0 x1 x2 x3
                clear y0 y1 y2 y3
                generalize hWg : World.drewN _ nq = WB1 at *
                clear hWg MF BF
                try clear nq
                go_wp2_with fail
                obtain ⟨x0, x1, x2, x3⟩ := cell4_same (J4.out.same MF1.out) hb1 HX.out
                dsimp only at x0 x1 x2 x3
                obtain ⟨y0, y1, y2, y3⟩ := cell4_same (J4.out.same MF1.out) hb2 HY.out
                dsimp only at y0 y1 y2 y3
                go_big_quiet (fail)
                have MF2 := Lib.hid (MF1.out.drewN nq)
                have BF2 := Lib.hid (BF1.out.drewN nq)
                clear x0 x1 x2 x3
                clear y0 y1 y2 y3
                generalize hWg : World.drewN _ nq = WB2 at *
                clear hWg MF1 BF1
                try clear nq
                go_wp2_with fail
                obtain ⟨x0, x1, x2, x3⟩ := cell4_same (J4.out.same MF2.out) hb1 HX.out
                dsimp only at x0 x1 x2 x3
                obtain ⟨y0, y1, y2, y3⟩ := cell4_same (J4.out.same MF2.out) hb2 HY.out
                dsimp only at y0 y1 y2 y3
                have BS := Lib.hid (((BF2.out.set 0 (.int .i64 (yc))).set 1 (.int .i64 (2))).drew)
                have MS := Lib.hid ((((MF2.out.setCell (p := ⟨wr.heap.size, 0, none⟩) (fun q => by dsimp only at q; omega) (.int .i64 (yc))).setCell (p := ⟨wr.heap.size, 1, none⟩) (fun q => by dsimp only at q; omega) (.int .i64 (2)))).drew)
                have hk2 := (cell4_same (J4.out.same MS.out) hb2 HY.out).1
                dsimp only at hk2
                have hc := BF2.out.cell
                have hf := BF2.out.free
                refine wp_region_held_drew (S := (fun w' => w'.cell? ⟨b2, o2, none⟩ = some (.int .i64 yc))) (by kernel_rfl) (by (try dsimp only); first | assumption | exact hk2) (fun hHeld => ?_)
                refine wpAnyH_take (i := 0) (v := ?_) rfl (by kernel_rfl) (by kernel_rfl) (by kernel_rfl) (fun _ _ _ h => h) (Or.inl ⟨by rfl, ?_⟩) (by assumption) ?_
                rotate_left
                · intro w hSw
                  try dsimp only at hSw
                  go_simp
                  try with_reducible rfl
                try simp only [List.getElem_toArray, List.getElem_cons_succ, List.getElem_cons_zero, Act.put, List.setIfInBounds_toArray, List.set_cons_zero, List.set_cons_succ]
                refine wpAnyH_take (i := 1) (v := ?_) rfl (by kernel_rfl) (by kernel_rfl) (by kernel_rfl) (fun _ _ _ h => h) (Or.inl ⟨by rfl, ?_⟩) (by assumption) ?_
                rotate_left
                · intro w hSw
                  try dsimp only at hSw
                  go_simp
                  try with_reducible rfl
                try simp only [List.getElem_toArray, List.getElem_cons_succ, List.getElem_cons_zero, Act.put, List.setIfInBounds_toArray, List.set_cons_zero, List.set_cons_succ]
                refine wpAnyH_take (i := 2) (v := ?_) rfl (by kernel_rfl) (by kernel_rfl) (by kernel_rfl) (fun _ _ _ h => h) (Or.inl ⟨by rfl, ?_⟩) (by assumption) ?_
                rotate_left
                · intro w hSw
                  try dsimp only at hSw
                  go_simp
                  try with_reducible rfl
                try simp only [List.getElem_toArray, List.getElem_cons_succ, List.getElem_cons_zero, Act.put, List.setIfInBounds_toArray, List.set_cons_zero, List.set_cons_succ]
                refine wpAnyH_take (i := 3) (v := ?_) rfl (by kernel_rfl) (by kernel_rfl) (by kernel_rfl) (fun _ _ _ h => h) (Or.inl ⟨by rfl, ?_⟩) (by assumption) ?_
                rotate_left
                · intro w hSw
                  try dsimp only at hSw
                  go_simp
                  try with_reducible rfl
                try simp only [List.getElem_toArray, List.getElem_cons_succ, List.getElem_cons_zero, Act.put, List.setIfInBounds_toArray, List.set_cons_zero, List.set_cons_succ]
                refine wpAnyH_take (i := 4) (v := ?_) rfl (by kernel_rfl) (by kernel_rfl) (by kernel_rfl) (fun _ _ _ h => h) (Or.inl ⟨by rfl, ?_⟩) (by assumption) ?_
                rotate_left
                · intro w hSw
                  try dsimp only at hSw
                  go_simp
                  try with_reducible rfl
                try simp only [List.getElem_toArray, List.getElem_cons_succ, List.getElem_cons_zero, Act.put, List.setIfInBounds_toArray, List.set_cons_zero, List.set_cons_succ]
                refine wpAnyH_take (i := 5) (v := ?_) rfl (by kernel_rfl) (by kernel_rfl) (by kernel_rfl) (fun _ _ _ h => h) (Or.inl ⟨by rfl, ?_⟩) (by assumption) ?_
                rotate_left
                · intro w hSw
                  try dsimp only at hSw
                  go_simp
                  try with_reducible rfl
                try simp only [List.getElem_toArray, List.getElem_cons_succ, List.getElem_cons_zero, Act.put, List.setIfInBounds_toArray, List.set_cons_zero, List.set_cons_succ]
                refine wpAnyH_take (i := 6) (v := ?_) rfl (by kernel_rfl) (by kernel_rfl) (by kernel_rfl) (fun _ _ _ h => h) (Or.inl ⟨by rfl, ?_⟩) (by assumption) ?_
                rotate_left
                · intro w hSw
                  try dsimp only at hSw
                  have hle : (1 : Int) ≤ (m2 : Int) + 1 := by omega
                  go_simp
                  try with_reducible rfl
                try simp only [List.getElem_toArray, List.getElem_cons_succ, List.getElem_cons_zero, Act.put, List.setIfInBounds_toArray, List.set_cons_zero, List.set_cons_succ]
                refine wpAnyH_ready (rs := [7]) (by kernel_rfl) (by simp) ?_
                refine AllReadyH.cons rfl (fun Kc hKc => ?_) AllReadyH.nil
                go_simp
                refine hKc.out _ _ (by (try dsimp only); first | assumption | exact hk2) (fun hHeld => ?_)
                clear hKc Kc
                try simp only [List.getElem_toArray, List.getElem_cons_succ, List.getElem_cons_zero, Act.put, List.setIfInBounds_toArray, List.set_cons_zero, List.set_cons_succ]
                refine wpAnyH_take (i := 8) (v := ?_) rfl (by kernel_rfl) (by kernel_rfl) (by kernel_rfl) (fun _ _ _ h => h) (Or.inl ⟨by rfl, ?_⟩) (by assumption) ?_
                rotate_left
                · intro w hSw
                  try dsimp only at hSw
                  go_simp
                  try with_reducible rfl
                try simp only [List.getElem_toArray, List.getElem_cons_succ, List.getElem_cons_zero, Act.put, List.setIfInBounds_toArray, List.set_cons_zero, List.set_cons_succ]
                refine wpAnyH_done (by kernel_rfl) ?_ _
                have K9 := Lib.hid (J4.out.same MS.out)
                have O9 := Lib.hid (owns_same J3.out MS.out)
                have hc9 := BS.out.cell
                have hs9 := K9.out.size
                clear hc hf hHeld
                generalize World.drew _ = W9 at *
                go_wp2_with (at_builtin; refine wpList_append_lies _ rfl (.tmp 88) (.tmp 90) 26 rfl w2.heap.size 32 i0 (.agg #[.int .i64 0, .int .i64 0]) 2 16 Tryd.underlying26 I0.out Z0.out Z1.out Z2.out rfl (by decide) _ _ _ rfl (O9.out.alloc _) ⟨W9.heap.size, 0, none⟩ 1 1 (fC (yc, 2)) rfl rfl (two_new W9 (yc, 2) _) (fun u hu => (by simp at hu; rcases hu with rfl | rfl <;> rfl)) (by decide) (by unfold maxLen; omega) (by omega) (by simp only [World.size_alloc]; omega) (W9.heap.size + 1) (by simp) ?_; intro g cp w6 hown' hgrow hat hgl)
                have P1 := Lib.hid (same_append K9.out O9.out hgrow)
                have P2 := Lib.hid hown'
                clear hown' hgrow hat
                go_roundw
                have HM1' : A.length = m1 := HM1.out
                have HM2' : B.length = m2 := HM2.out
                case rel =>
                  refine ⟨⟨xc, xt, xs, xh⟩ :: A, B, F ++ [(yc, 2)], _, _, _, _, by rw [List.length_cons, HM1.out], by rw [HM2.out], ?_, ?_, ?_, ?_, ?_, ?_, ?_, by rw [List.append_assoc, ← HA.out, ag_gt _ _ (by exact hgt)]; rfl, ?_, ?_, by rw [List.length_append, List.flatMap_append]; exact P2.out, P1.out⟩
                  all_goals first | omega | (simp only [List.length_append, List.length_singleton, List.length_cons, List.length_nil, HM1', HM2']; omega) | skip
                  · exact J1.out
                  · exact sms_if T2.out (by intro h; have := HM2.out; omega)
                case measure => simp [lenS]; try omega
              · have d1 : decide (xc < yc) = false := decide_eq_false hlt
                have d2 : decide (yc < xc) = false := decide_eq_false hgt
                have HEq := Lib.hid (show xc = yc by omega)
                go_big_quiet (fail)
                have MF1 := Lib.hid (MF.out.drewN nq)
                have BF1 := Lib.hid (BF.out.drewN nq)
                clear x0 x1 x2 x3
                clear y0 y1 y2 y3
                generalize hWg : World.drewN _ nq = WB1 at *
                clear hWg MF BF
                try clear nq
                go_wp2_with fail
                obtain ⟨x0, x1, x2, x3⟩ := cell4_same (J4.out.same MF1.out) hb1 HX.out
                dsimp only at x0 x1 x2 x3
                obtain ⟨y0, y1, y2, y3⟩ := cell4_same (J4.out.same MF1.out) hb2 HY.out
                dsimp only at y0 y1 y2 y3
                go_big_quiet (fail)
                have MF2 := Lib.hid (MF1.out.drewN nq)
                have BF2 := Lib.hid (BF1.out.drewN nq)
                clear x0 x1 x2 x3
                clear y0 y1 y2 y3
                generalize hWg : World.drewN _ nq = WB2 at *
                clear hWg MF1 BF1
                try clear nq
                go_wp2_with fail
                obtain ⟨x0, x1, x2, x3⟩ := cell4_same (J4.out.same MF2.out) hb1 HX.out
                dsimp only at x0 x1 x2 x3
                obtain ⟨y0, y1, y2, y3⟩ := cell4_same (J4.out.same MF2.out) hb2 HY.out
                dsimp only at y0 y1 y2 y3
                refine wp_region_held_drew (S := (fun w' => Cell4 w' b1 o1 ⟨xc, xt, xs, xh⟩ ∧ Cell4 w' b2 o2 ⟨yc, yt, ys, yh⟩)) (by kernel_rfl) (by (try dsimp only); first | assumption | exact ⟨⟨x0, x1, x2, x3⟩, ⟨y0, y1, y2, y3⟩⟩ | exact hk5 | exact hkS) (fun hHeld => ?_)
                refine wpAnyH_take (i := 0) (v := ?_) rfl (by kernel_rfl) (by kernel_rfl) (by kernel_rfl) (fun _ _ _ h => h) (Or.inl ⟨by rfl, ?_⟩) (by assumption) ?_
                rotate_left
                · intro w hSw
                  try dsimp only at hSw
                  go_simp
                  try with_reducible rfl
                try simp only [List.getElem_toArray, List.getElem_cons_succ, List.getElem_cons_zero, Act.put, List.setIfInBounds_toArray, List.set_cons_zero, List.set_cons_succ]
                refine wpAnyH_take (i := 1) (v := ?_) rfl (by kernel_rfl) (by kernel_rfl) (by kernel_rfl) (fun _ _ _ h => h) (Or.inl ⟨by rfl, ?_⟩) (by assumption) ?_
                rotate_left
                · intro w hSw
                  try dsimp only at hSw
                  go_simp
                  try with_reducible rfl
                try simp only [List.getElem_toArray, List.getElem_cons_succ, List.getElem_cons_zero, Act.put, List.setIfInBounds_toArray, List.set_cons_zero, List.set_cons_succ]
                refine wpAnyH_take (i := 2) (v := ?_) rfl (by kernel_rfl) (by kernel_rfl) (by kernel_rfl) (fun _ _ _ h => h) (Or.inl ⟨by rfl, ?_⟩) (by assumption) ?_
                rotate_left
                · intro w hSw
                  try dsimp only at hSw
                  go_simp
                  try with_reducible rfl
                try simp only [List.getElem_toArray, List.getElem_cons_succ, List.getElem_cons_zero, Act.put, List.setIfInBounds_toArray, List.set_cons_zero, List.set_cons_succ]
                refine wpAnyH_take (i := 4) (v := ?_) rfl (by kernel_rfl) (by kernel_rfl) (by kernel_rfl) (fun _ _ _ h => h) (Or.inl ⟨by rfl, ?_⟩) (by assumption) ?_
                rotate_left
                · intro w hSw
                  try dsimp only at hSw
                  go_simp
                  try with_reducible rfl
                try simp only [List.getElem_toArray, List.getElem_cons_succ, List.getElem_cons_zero, Act.put, List.setIfInBounds_toArray, List.set_cons_zero, List.set_cons_succ]
                refine wpAnyH_take (i := 5) (v := ?_) rfl (by kernel_rfl) (by kernel_rfl) (by kernel_rfl) (fun _ _ _ h => h) (Or.inl ⟨by rfl, ?_⟩) (by assumption) ?_
                rotate_left
                · intro w hSw
                  try dsimp only at hSw
                  go_simp
                  try with_reducible rfl
                try simp only [List.getElem_toArray, List.getElem_cons_succ, List.getElem_cons_zero, Act.put, List.setIfInBounds_toArray, List.set_cons_zero, List.set_cons_succ]
                refine wpAnyH_take (i := 7) (v := ?_) rfl (by kernel_rfl) (by kernel_rfl) (by kernel_rfl) (fun _ _ _ h => h) (Or.inl ⟨by rfl, ?_⟩) (by assumption) ?_
                rotate_left
                · intro w hSw
                  try dsimp only at hSw
                  go_simp
                  try with_reducible rfl
                try simp only [List.getElem_toArray, List.getElem_cons_succ, List.getElem_cons_zero, Act.put, List.setIfInBounds_toArray, List.set_cons_zero, List.set_cons_succ]
                refine wpAnyH_take (i := 8) (v := ?_) rfl (by kernel_rfl) (by kernel_rfl) (by kernel_rfl) (fun _ _ _ h => h) (Or.inl ⟨by rfl, ?_⟩) (by assumption) ?_
                rotate_left
                · intro w hSw
                  try dsimp only at hSw
                  go_simp
                  try with_reducible rfl
                try simp only [List.getElem_toArray, List.getElem_cons_succ, List.getElem_cons_zero, Act.put, List.setIfInBounds_toArray, List.set_cons_zero, List.set_cons_succ]
                refine wpAnyH_take (i := 12) (v := ?_) rfl (by kernel_rfl) (by kernel_rfl) (by kernel_rfl) (fun _ _ _ h => h) (Or.inl ⟨by rfl, ?_⟩) (by assumption) ?_
                rotate_left
                · intro w hSw
                  try dsimp only at hSw
                  go_simp
                  try with_reducible rfl
                try simp only [List.getElem_toArray, List.getElem_cons_succ, List.getElem_cons_zero, Act.put, List.setIfInBounds_toArray, List.set_cons_zero, List.set_cons_succ]
                refine wpAnyH_take (i := 13) (v := ?_) rfl (by kernel_rfl) (by kernel_rfl) (by kernel_rfl) (fun _ _ _ h => h) (Or.inl ⟨by rfl, ?_⟩) (by assumption) ?_
                rotate_left
                · intro w hSw
                  try dsimp only at hSw
                  have hle : (1 : Int) ≤ (m1 : Int) + 1 := by omega
                  go_simp
                  try with_reducible rfl
                try simp only [List.getElem_toArray, List.getElem_cons_succ, List.getElem_cons_zero, Act.put, List.setIfInBounds_toArray, List.set_cons_zero, List.set_cons_succ]
                refine wpAnyH_take (i := 14) (v := ?_) rfl (by kernel_rfl) (by kernel_rfl) (by kernel_rfl) (fun _ _ _ h => h) (Or.inl ⟨by rfl, ?_⟩) (by assumption) ?_
                rotate_left
                · intro w hSw
                  try dsimp only at hSw
                  go_simp
                  try with_reducible rfl
                try simp only [List.getElem_toArray, List.getElem_cons_succ, List.getElem_cons_zero, Act.put, List.setIfInBounds_toArray, List.set_cons_zero, List.set_cons_succ]
                refine wpAnyH_take (i := 15) (v := ?_) rfl (by kernel_rfl) (by kernel_rfl) (by kernel_rfl) (fun _ _ _ h => h) (Or.inl ⟨by rfl, ?_⟩) (by assumption) ?_
                rotate_left
                · intro w hSw
                  try dsimp only at hSw
                  have hle : (1 : Int) ≤ (m2 : Int) + 1 := by omega
                  go_simp
                  try with_reducible rfl
                try simp only [List.getElem_toArray, List.getElem_cons_succ, List.getElem_cons_zero, Act.put, List.setIfInBounds_toArray, List.set_cons_zero, List.set_cons_succ]
                generalize haa1 : (if c = 0 then some (⟨b1, o1, none⟩ : Addr) else some ⟨b1, o1 + 4, none⟩) = aa1
                generalize haa2 : (if d = 0 then some (⟨b2, o2, none⟩ : Addr) else some ⟨b2, o2 + 4, none⟩) = aa2
                have HA1 := Lib.hid (show Sms w2 aa1 A by rw [← haa1]; exact sms_if T1.out (by intro h; have := HM1.out; omega))
                have HA2 := Lib.hid (show Sms w2 aa2 B by rw [← haa2]; exact sms_if T2.out (by intro h; have := HM2.out; omega))
                clear haa1 haa2
                refine wpAnyH_take (i := 3) (v := ?_) rfl (by kernel_rfl) (by kernel_rfl) (by kernel_rfl) (fun _ _ _ h => h) (Or.inl ⟨by rfl, ?_⟩) (by assumption) ?_
                rotate_left
                · intro w hSw
                  try dsimp only at hSw
                  obtain ⟨⟨q0, q1, q2, q3⟩, ⟨r0, r1, r2, r3⟩⟩ := hSw
                  go_simp
                  try with_reducible rfl
                try simp only [List.getElem_toArray, List.getElem_cons_succ, List.getElem_cons_zero, Act.put, List.setIfInBounds_toArray, List.set_cons_zero, List.set_cons_succ]
                refine wpAnyH_take (i := 6) (v := ?_) rfl (by kernel_rfl) (by kernel_rfl) (by kernel_rfl) (fun _ _ _ h => h) (Or.inl ⟨by rfl, ?_⟩) (by assumption) ?_
                rotate_left
                · intro w hSw
                  try dsimp only at hSw
                  obtain ⟨⟨q0, q1, q2, q3⟩, ⟨r0, r1, r2, r3⟩⟩ := hSw
                  go_simp
                  try with_reducible rfl
                try simp only [List.getElem_toArray, List.getElem_cons_succ, List.getElem_cons_zero, Act.put, List.setIfInBounds_toArray, List.set_cons_zero, List.set_cons_succ]
                refine wpAnyH_take (i := 9) (v := ?_) rfl (by kernel_rfl) (by kernel_rfl) (by kernel_rfl) (fun _ _ _ h => h) (Or.inl ⟨by rfl, ?_⟩) (by assumption) ?_
                rotate_left
                · intro w hSw
                  try dsimp only at hSw
                  obtain ⟨⟨q0, q1, q2, q3⟩, ⟨r0, r1, r2, r3⟩⟩ := hSw
                  go_simp
                  try with_reducible rfl
                try simp only [List.getElem_toArray, List.getElem_cons_succ, List.getElem_cons_zero, Act.put, List.setIfInBounds_toArray, List.set_cons_zero, List.set_cons_succ]
                refine wpAnyH_ready (rs := [10]) (by kernel_rfl) (by simp) ?_
                refine AllReadyH.cons rfl (fun Kc hKc => ?_) AllReadyH.nil
                go_simp
                refine (kind_any ⟨xc, xt, xs, xh⟩ ⟨yc, yt, ys, yh⟩ _).mono ?_
                rintro e wK ⟨rfl, MK⟩
                have MK1 := Lib.hid (MF2.out.drew.same MK)
                have BK1 := Lib.hid (BF2.out.drew.mod MK (fun q => q))
                have hk5 := And.intro (cell4_same (J4.out.same MK1.out) hb1 HX.out) (cell4_same (J4.out.same MK1.out) hb2 HY.out)
                clear MK
                obtain ⟨kk, hkk⟩ : ∃ kk, kd ⟨xc, xt, xs, xh⟩ ⟨yc, yt, ys, yh⟩ = kk := ⟨_, rfl⟩
                rw [hkk]
                have HKD := Lib.hid hkk
                clear hkk
                have hc := BK1.out.cell
                have hf := BK1.out.free
                have BS := Lib.hid ((BK1.out.set 0 (.int .i64 yc)).set 1 (.int .i64 kk))
                have MS := Lib.hid (((MK1.out.setCell (p := ⟨wr.heap.size, 0, none⟩) (fun q => by dsimp only at q; omega) (.int .i64 yc)).setCell (p := ⟨wr.heap.size, 1, none⟩) (fun q => by dsimp only at q; omega) (.int .i64 kk)))
                have hkS := And.intro (cell4_same (J4.out.same MS.out) hb1 HX.out) (cell4_same (J4.out.same MS.out) hb2 HY.out)
                go_wp2_with fail
                refine hKc.out _ _ (by (try dsimp only); first | assumption | exact ⟨⟨x0, x1, x2, x3⟩, ⟨y0, y1, y2, y3⟩⟩ | exact hk5 | exact hkS) (fun hHeld => ?_)
                clear hKc Kc
                try simp only [List.getElem_toArray, List.getElem_cons_succ, List.getElem_cons_zero, Act.put, List.setIfInBounds_toArray, List.set_cons_zero, List.set_cons_succ]
                refine wpAnyH_take (i := 11) (v := ?_) rfl (by kernel_rfl) (by kernel_rfl) (by kernel_rfl) (fun _ _ _ h => h) (Or.inl ⟨by rfl, ?_⟩) (by assumption) ?_
                rotate_left
                · intro w hSw
                  try dsimp only at hSw
                  go_simp
                  try with_reducible rfl
                try simp only [List.getElem_toArray, List.getElem_cons_succ, List.getElem_cons_zero, Act.put, List.setIfInBounds_toArray, List.set_cons_zero, List.set_cons_succ]
                refine wpAnyH_ready (rs := [16]) (by kernel_rfl) (by simp) ?_
                refine AllReadyH.cons rfl (fun Kc hKc => ?_) AllReadyH.nil
                go_simp
                refine hKc.out _ _ (by (try dsimp only); first | assumption | exact ⟨⟨x0, x1, x2, x3⟩, ⟨y0, y1, y2, y3⟩⟩ | exact hk5 | exact hkS) (fun hHeld => ?_)
                clear hKc Kc
                try simp only [List.getElem_toArray, List.getElem_cons_succ, List.getElem_cons_zero, Act.put, List.setIfInBounds_toArray, List.set_cons_zero, List.set_cons_succ]
                refine wpAnyH_take (i := 17) (v := ?_) rfl (by kernel_rfl) (by kernel_rfl) (by kernel_rfl) (fun _ _ _ h => h) (Or.inl ⟨by rfl, ?_⟩) (by assumption) ?_
                rotate_left
                · intro w hSw
                  try dsimp only at hSw
                  go_simp
                  try with_reducible rfl
                try simp only [List.getElem_toArray, List.getElem_cons_succ, List.getElem_cons_zero, Act.put, List.setIfInBounds_toArray, List.set_cons_zero, List.set_cons_succ]
                refine wpAnyH_take (i := 18) (v := ?_) rfl (by kernel_rfl) (by kernel_rfl) (by kernel_rfl) (fun _ _ _ h => h) (Or.inl ⟨by rfl, ?_⟩) (by assumption) ?_
                rotate_left
                · intro w hSw
                  try dsimp only at hSw
                  go_simp
                  try with_reducible rfl
                try simp only [List.getElem_toArray, List.getElem_cons_succ, List.getElem_cons_zero, Act.put, List.setIfInBounds_toArray, List.set_cons_zero, List.set_cons_succ]
                refine wpAnyH_done (by kernel_rfl) ?_ _
                have K9 := Lib.hid (J4.out.same MS.out)
                have O9 := Lib.hid (owns_same J3.out MS.out)
                have hc9 := BS.out.cell
                have hs9 := K9.out.size
                clear hc hf hHeld
                generalize World.setCell _ _ _ = W9 at *
                by_cases hk0 : kk = 0
                · have hkb : (kk == 0) = true := by rw [hk0]; rfl
                  have hkn : (kk != 0) = false := by rw [hk0]; rfl
                  have HK0 := Lib.hid hk0
                  go_wp2_with fail
                  go_roundw
                  have HM1' : A.length = m1 := HM1.out
                  have HM2' : B.length = m2 := HM2.out
                  case rel =>
                    refine ⟨A, B, F, _, _, _, _, by rw [HM1.out], by rw [HM2.out], ?_, ?_, ?_, ?_, ?_, ?_, ?_, by rw [← HA.out, ag_eq _ _ (by exact HEq.out), HKD.out, HK0.out]; rfl, ?_, ?_, O9.out, K9.out⟩
                    all_goals first | omega | (simp only [List.length_append, List.length_singleton, List.length_cons, List.length_nil, HM1', HM2']; omega) | skip
                    · exact HA1.out
                    · exact HA2.out
                  case measure => simp [lenS]; try omega
                · have hkb : (kk == 0) = false := beqF hk0
                  have hkn : (kk != 0) = true := bneT hk0
                  have HK0 := Lib.hid hk0
                  go_wp2_with (at_builtin; refine wpList_append_lies _ rfl (.tmp 88) (.tmp 90) 26 rfl w2.heap.size 32 i0 (.agg #[.int .i64 0, .int .i64 0]) 2 16 Tryd.underlying26 I0.out Z0.out Z1.out Z2.out rfl (by decide) _ _ _ rfl (O9.out.alloc _) ⟨W9.heap.size, 0, none⟩ 1 1 (fC (yc, kk)) rfl rfl (two_new W9 (yc, kk) _) (fun u hu => (by simp at hu; rcases hu with rfl | rfl <;> rfl)) (by decide) (by unfold maxLen; omega) (by omega) (by simp only [World.size_alloc]; omega) (W9.heap.size + 1) (by simp) ?_; intro g cp w6 hown' hgrow hat hgl)
                  have P1 := Lib.hid (same_append K9.out O9.out hgrow)
                  have P2 := Lib.hid hown'
                  clear hown' hgrow hat
                  go_roundw
                  have HM1' : A.length = m1 := HM1.out
                  have HM2' : B.length = m2 := HM2.out
                  case rel =>
                    refine ⟨A, B, F ++ [(yc, kk)], _, _, _, _, by rw [HM1.out], by rw [HM2.out], ?_, ?_, ?_, ?_, ?_, ?_, ?_, by rw [List.append_assoc, ← HA.out, ag_eq _ _ (by exact HEq.out), HKD.out]; unfold hit; rw [if_neg HK0.out]; rfl, ?_, ?_, by rw [List.length_append, List.flatMap_append]; exact P2.out, P1.out⟩
                    all_goals first | omega | (simp only [List.length_append, List.length_singleton, List.length_cons, List.length_nil, HM1', HM2']; omega) | skip
                    · exact HA1.out
                    · exact HA2.out
                  case measure => simp [lenS]; try omega
end Go.Proofs.YthkcdoneghcglaaDoor
