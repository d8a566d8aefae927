import Derived.Test.YtlcepoagpocadaaGreatDoorMgE
import Derived.BigQuiet
set_option linter.unusedSimpArgs false
set_option linter.unusedVariables false
set_option maxRecDepth 100000
/- Whether two models have the same volumes and sectors. -/
namespace Go.Proofs.YtlcepoagpocadaaGreatDoor
open Go Go.RowKit
@[go_sem] theorem eq47 (a0 a1 a2 : Int) (a3 : Bool) (a4 b0 b1 b2 : Int) (b3 : Bool) (b4 : Int) (w : World) : (Op.equalIn 10000 47 (.agg #[.int .i64 a0, .int .i64 a1, .int .i64 a2, .bool a3, .int .i64 a4]) (.agg #[.int .i64 b0, .int .i64 b1, .int .i64 b2, .bool b3, .int .i64 b4])).run Tryz.prog w = .ok (decide (a0 = b0 ∧ a1 = b1 ∧ a2 = b2 ∧ a3 = b3 ∧ a4 = b4)) w := by
  have u3 := Tryz.underlying3
  have u4 := Tryz.underlying4
  have s3 := Tryz.sizeOf3
  have s4 := Tryz.sizeOf4
  have g3 := Tryz.isAgg3
  have g4 := Tryz.isAgg4
  rw [show (10000 : Nat) = 9999 + 1 from rfl, Op.equalIn]
  simp only [Sem.run_bind, run_underlying Tryz.underlying47, Result.andThen_ok]
  go_simp
  by_cases h0 : a0 = b0 <;> by_cases h1 : a1 = b1 <;> by_cases h2 : a2 = b2 <;> by_cases h3 : a3 = b3 <;> by_cases h4 : a4 = b4 <;> simp [h0, h1, h2, h3, h4]
theorem neq47 (a0 a1 a2 : Int) (a3 : Bool) (a4 b0 b1 b2 : Int) (b3 : Bool) (b4 : Int) (w : World) : (binOp BinOp.neq 47 (.agg #[.int .i64 a0, .int .i64 a1, .int .i64 a2, .bool a3, .int .i64 a4]) (.agg #[.int .i64 b0, .int .i64 b1, .int .i64 b2, .bool b3, .int .i64 b4])).run Tryz.prog w = .ok (.bool (!decide (a0 = b0 ∧ a1 = b1 ∧ a2 = b2 ∧ a3 = b3 ∧ a4 = b4))) w := by
  have h : (Op.equalIn Op.maxDepth 47 (.agg #[.int .i64 a0, .int .i64 a1, .int .i64 a2, .bool a3, .int .i64 a4]) (.agg #[.int .i64 b0, .int .i64 b1, .int .i64 b2, .bool b3, .int .i64 b4])).run Tryz.prog w = _ := eq47 a0 a1 a2 a3 a4 b0 b1 b2 b3 b4 w
  simp [binOp, Op.equal, h, Result.andThen]
structure TxS (w : World) (v : Value) (xs : List (List UInt8)) : Prop where
  ex : ∃ a c, v = .slice a xs.length c ∧ (0 < xs.length → ∃ g, a = some ⟨g, 0, none⟩ ∧ RowV w g xs.length (txF xs))
theorem TxS.same {w w' : World} {v : Value} {xs : List (List UInt8)} (h : TxS w v xs) (M : Same w w') : TxS w' v xs := by
  obtain ⟨a, c, e, k⟩ := h.ex
  exact ⟨⟨a, c, e, fun hp => let ⟨g, e2, r⟩ := k hp; ⟨g, e2, r.mod M (fun q => q)⟩⟩⟩
theorem TxS.owns {w : World} {B : Nat} {v : Value} {xs : List (List UInt8)} (h : w.ownsRow B 9 1 v xs.length (xs.map strV)) : TxS w v xs := by
  obtain ⟨a, c, rfl⟩ := owns_slice h
  refine ⟨⟨a, c, rfl, fun hp => ?_⟩⟩
  obtain ⟨g, cap, e, hb, hc, hr⟩ := RowV.of_owns h hp
  injection e with e1 _ _
  rw [Nat.mul_one] at hr
  exact ⟨g, e1, hr.congr (fun i hi => txF_map xs i hi)⟩
set_option maxHeartbeats 8000000 in
theorem eqTx_any (w : World) (v1 v2 : Value) (xs ys : List (List UInt8)) (h1 : TxS w v1 xs) (h2 : TxS w v2 ys) (hl : xs.length ≤ 1000000) (hl2 : ys.length ≤ 1000000) :
    Calls Tryz.prog 75 #[v1, v2] w fun e w' => e = .returned (.bool (decide (xs = ys))) ∧ Same w w' := by
  refine opq fun R HR => ?_
  obtain ⟨a1, c1, rfl, k1⟩ := h1.ex
  obtain ⟨a2, c2, rfl, k2⟩ := h2.ex
  have K1 := Lib.hid k1
  have K2 := Lib.hid k2
  obtain ⟨n1, hn1⟩ : ∃ n, xs.length = n := ⟨_, rfl⟩
  obtain ⟨n2, hn2⟩ : ∃ n, ys.length = n := ⟨_, rfl⟩
  rw [hn1] at K1 hl ⊢
  rw [hn2] at K2 hl2 ⊢
  have N1 := Lib.hid hn1
  have N2 := Lib.hid hn2
  clear h1 h2 k1 k2 hn1 hn2
  by_cases hne : n1 = n2
  case neg =>
    have hd : decide (xs = ys) = false := decide_eq_false (fun e => hne (by rw [← N1.out, ← N2.out, e]))
    rw [hd] at HR
    have hq : ((n1 : Int) != (n2 : Int)) = true := by simp; omega
    go_enter Tryz.func75, Tryz.ntmps75
    go_wp2
    exact HR.out _ _ ⟨rfl, Mod.refl _ _⟩
  subst hne
  have hq : ((n1 : Int) != (n1 : Int)) = false := by simp
  go_enter Tryz.func75, Tryz.ntmps75
  go_wp2_with fail
  go_loopw [13] (fun i wr => ∃ j : Nat, j ≤ n1 ∧ i = .int .i64 j ∧ xs.take j = ys.take j ∧ Same w wr) (fun i _ => n1 - (intOf i).toNat)
  case atStart => exact ⟨0, Nat.zero_le _, rfl, rfl, Mod.refl _ _⟩
  case round =>
    obtain ⟨j, hj, rfl, ht, hM⟩ := hrel
    have HT := Lib.hid ht
    have J := Lib.hid hM
    clear ht hM
    by_cases hlt : j < n1
    · obtain ⟨x, hx⟩ : ∃ x, xs[j]? = some x := ⟨_, List.getElem?_eq_getElem (by rw [N1.out]; exact hlt)⟩
      obtain ⟨y, hy⟩ : ∃ y, ys[j]? = some y := ⟨_, List.getElem?_eq_getElem (by rw [N2.out]; exact hlt)⟩
      obtain ⟨g1, rfl, r1⟩ := K1.out (by omega)
      obtain ⟨g2, rfl, r2⟩ := K2.out (by omega)
      have q1 := ((r1.mod J.out (fun q => q)).cell j hlt).trans (show _ = some (Value.string ⟨x.toArray⟩) by unfold txF; rw [List.getD_eq_getElem?_getD, hx]; rfl)
      have q2 := ((r2.mod J.out (fun q => q)).cell j hlt).trans (show _ = some (Value.string ⟨y.toArray⟩) by unfold txF; rw [List.getD_eq_getElem?_getD, hy]; rfl)
      have tk : xs.take (j + 1) = xs.take j ++ [x] := by
        obtain ⟨h1, h2⟩ := List.getElem?_eq_some_iff.1 hx
        rw [List.take_succ_eq_append_getElem h1, h2]
      have tk2 : ys.take (j + 1) = ys.take j ++ [y] := by
        obtain ⟨h1, h2⟩ := List.getElem?_eq_some_iff.1 hy
        rw [List.take_succ_eq_append_getElem h1, h2]
      have TK := Lib.hid tk
      have TK2 := Lib.hid tk2
      have HX := Lib.hid hx
      have HY := Lib.hid hy
      clear tk tk2 hx hy r1 r2
      have hi0 : (0 : Int) ≤ (j : Int) := by omega
      have hi1 : (j : Int) < (n1 : Int) := by omega
      by_cases hxy : x = y
      · subst hxy
        go_wp2_with fail
        go_big_quiet (fail)
        go_wp2_with fail
        go_roundw
        case rel => exact ⟨j + 1, by omega, by go_num, by rw [TK.out, TK2.out, HT.out], (J.out.drewN _)⟩
        case measure => simp [intOf]; omega
      · have hb : (x == y) = false := by simpa using hxy
        have hb2 : (x != y) = true := by simpa using hxy
        have hd : decide (xs = ys) = false := decide_eq_false (fun e => hxy (by
          have h1 := HX.out
          rw [e, HY.out] at h1
          exact (Option.some.inj h1).symm))
        rw [hd] at HR
        go_wp2_with fail
        go_big_quiet (fail)
        go_wp2_with fail
        exact HR.out _ _ ⟨rfl, (J.out.drewN _)⟩
    · obtain rfl : j = n1 := by omega
      have hd : decide (xs = ys) = true := decide_eq_true (by
        have := HT.out
        rw [List.take_of_length_le (by rw [N1.out]; exact Nat.le_refl _), List.take_of_length_le (by rw [N2.out]; exact Nat.le_refl _)] at this
        exact this)
      rw [hd] at HR
      go_wp2
      exact HR.out _ _ ⟨rfl, J.out⟩
structure TvS (w : World) (v : Value) (l : List Vo) : Prop where
  ex : ∃ a c, v = .slice a l.length c ∧ (0 < l.length → ∃ g, a = some ⟨g, 0, none⟩ ∧ RowV w g (l.length * 5) (fun i => (l.flatMap infoC).getD i undef))
theorem TvS.same {w w' : World} {v : Value} {l : List Vo} (h : TvS w v l) (M : Same w w') : TvS w' v l := by
  obtain ⟨a, c, e, k⟩ := h.ex
  exact ⟨⟨a, c, e, fun hp => let ⟨g, e2, r⟩ := k hp; ⟨g, e2, r.mod M (fun q => q)⟩⟩⟩
theorem TvS.owns {w : World} {B : Nat} {v : Value} {l : List Vo} (h : w.ownsRow B 47 5 v l.length (l.flatMap infoC)) : TvS w v l := by
  obtain ⟨a, c, rfl⟩ := owns_slice h
  refine ⟨⟨a, c, rfl, fun hp => ?_⟩⟩
  obtain ⟨g, cap, e, hb, hc, hr⟩ := RowV.of_owns h hp
  injection e with e1 _ _
  exact ⟨g, e1, hr⟩
theorem info_get2 {l : List Vo} {j : Nat} {v : Vo} (h : l[j]? = some v) {i : Nat} (hi : i < 5) : (l.flatMap infoC)[j * 5 + i]? = (infoC v)[i]? := by
  induction l generalizing j with
  | nil => simp at h
  | cons u r ih =>
    rw [List.flatMap_cons]
    cases j with
    | zero =>
      simp at h
      subst h
      rw [List.getElem?_append_left (by simp [infoC]; omega)]; simp
    | succ j =>
      rw [List.getElem?_append_right (by simp [infoC]; omega), show (j + 1) * 5 + i - (infoC u).length = j * 5 + i by simp [infoC]; omega]
      exact ih (by simpa using h)
theorem info_at {l : List Vo} {j : Nat} {v : Vo} (h : l[j]? = some v) (i : Nat) (hi : i < 5) (u : Value) (e : (infoC v)[i]? = some u) : some ((l.flatMap infoC).getD (j * 5 + i) undef) = some u := by
  rw [List.getD_eq_getElem?_getD, info_get2 h hi, e]; rfl
set_option maxHeartbeats 8000000 in
theorem eqVs_any (w : World) (v1 v2 : Value) (xs ys : List Vo) (h1 : TvS w v1 xs) (h2 : TvS w v2 ys) (hl : xs.length ≤ 1000000) (hl2 : ys.length ≤ 1000000) :
    Calls Tryz.prog 74 #[v1, v2] w fun e w' => e = .returned (.bool (decide (xs.map infoV = ys.map infoV))) ∧ Same w w' := by
  refine opq fun R HR => ?_
  obtain ⟨a1, c1, rfl, k1⟩ := h1.ex
  obtain ⟨a2, c2, rfl, k2⟩ := h2.ex
  have K1 := Lib.hid k1
  have K2 := Lib.hid k2
  obtain ⟨n1, hn1⟩ : ∃ n, xs.length = n := ⟨_, rfl⟩
  obtain ⟨n2, hn2⟩ : ∃ n, ys.length = n := ⟨_, rfl⟩
  rw [hn1] at K1 hl ⊢
  rw [hn2] at K2 hl2 ⊢
  have N1 := Lib.hid hn1
  have N2 := Lib.hid hn2
  clear h1 h2 k1 k2 hn1 hn2
  by_cases hne : n1 = n2
  case neg =>
    have hd : decide (xs.map infoV = ys.map infoV) = false := decide_eq_false (fun e => hne (by have := congrArg List.length e; rw [List.length_map, List.length_map, N1.out, N2.out] at this; exact this))
    rw [hd] at HR
    have hq : ((n1 : Int) != (n2 : Int)) = true := by simp; omega
    go_enter Tryz.func74, Tryz.ntmps74
    go_wp2
    exact HR.out _ _ ⟨rfl, Mod.refl _ _⟩
  subst hne
  have hq : ((n1 : Int) != (n1 : Int)) = false := by simp
  go_enter Tryz.func74, Tryz.ntmps74
  go_wp2_with fail
  go_loopw [13] (fun i wr => ∃ j : Nat, j ≤ n1 ∧ i = .int .i64 j ∧ (xs.take j).map infoV = (ys.take j).map infoV ∧ Same w wr) (fun i _ => n1 - (intOf i).toNat)
  case atStart => exact ⟨0, Nat.zero_le _, rfl, rfl, Mod.refl _ _⟩
  case round =>
    obtain ⟨j, hj, rfl, ht, hM⟩ := hrel
    have HT := Lib.hid ht
    have J := Lib.hid hM
    clear ht hM
    by_cases hlt : j < n1
    · obtain ⟨x, hx⟩ : ∃ x, xs[j]? = some x := ⟨_, List.getElem?_eq_getElem (by rw [N1.out]; exact hlt)⟩
      obtain ⟨y, hy⟩ : ∃ y, ys[j]? = some y := ⟨_, List.getElem?_eq_getElem (by rw [N2.out]; exact hlt)⟩
      obtain ⟨g1, rfl, r1⟩ := K1.out (by omega)
      obtain ⟨g2, rfl, r2⟩ := K2.out (by omega)
      have p0 := ((r1.mod J.out (fun q => q)).cell (j * 5) (by omega)).trans (show _ = some (Value.int .i64 x.id) from info_at hx 0 (by decide) _ rfl)
      have q0 := ((r2.mod J.out (fun q => q)).cell (j * 5) (by omega)).trans (show _ = some (Value.int .i64 y.id) from info_at hy 0 (by decide) _ rfl)
      have p1 := ((r1.mod J.out (fun q => q)).cell (j * 5 + 1) (by omega)).trans (show _ = some (Value.int .i64 x.size) from info_at hx 1 (by decide) _ rfl)
      have q1 := ((r2.mod J.out (fun q => q)).cell (j * 5 + 1) (by omega)).trans (show _ = some (Value.int .i64 y.size) from info_at hy 1 (by decide) _ rfl)
      have p2 := ((r1.mod J.out (fun q => q)).cell (j * 5 + 2) (by omega)).trans (show _ = some (Value.int .i64 0) from info_at hx 2 (by decide) _ rfl)
      have q2 := ((r2.mod J.out (fun q => q)).cell (j * 5 + 2) (by omega)).trans (show _ = some (Value.int .i64 0) from info_at hy 2 (by decide) _ rfl)
      have p3 := ((r1.mod J.out (fun q => q)).cell (j * 5 + 3) (by omega)).trans (show _ = some (Value.bool x.pin) from info_at hx 3 (by decide) _ rfl)
      have q3 := ((r2.mod J.out (fun q => q)).cell (j * 5 + 3) (by omega)).trans (show _ = some (Value.bool y.pin) from info_at hy 3 (by decide) _ rfl)
      have p4 := ((r1.mod J.out (fun q => q)).cell (j * 5 + 4) (by omega)).trans (show _ = some (Value.int .i64 x.fr) from info_at hx 4 (by decide) _ rfl)
      have q4 := ((r2.mod J.out (fun q => q)).cell (j * 5 + 4) (by omega)).trans (show _ = some (Value.int .i64 y.fr) from info_at hy 4 (by decide) _ rfl)
      have tk : xs.take (j + 1) = xs.take j ++ [x] := by
        obtain ⟨h1, h2⟩ := List.getElem?_eq_some_iff.1 hx
        rw [List.take_succ_eq_append_getElem h1, h2]
      have tk2 : ys.take (j + 1) = ys.take j ++ [y] := by
        obtain ⟨h1, h2⟩ := List.getElem?_eq_some_iff.1 hy
        rw [List.take_succ_eq_append_getElem h1, h2]
      have TK := Lib.hid tk
      have TK2 := Lib.hid tk2
      have HX := Lib.hid hx
      have HY := Lib.hid hy
      clear tk tk2 hx hy r1 r2
      have hi0 : (0 : Int) ≤ (j : Int) := by omega
      have hi1 : (j : Int) < (n1 : Int) := by omega
      by_cases hxy : infoV x = infoV y
      · have hd1 : decide (x.id = y.id ∧ x.size = y.size ∧ (0 : Int) = 0 ∧ x.pin = y.pin ∧ x.fr = y.fr) = true := decide_eq_true (by
          unfold infoV at hxy
          injection hxy with e1 e2
          injection e2 with e2 e3
          injection e3 with e3 e4
          exact ⟨e1, e2, rfl, e3, e4⟩)
        have hdd := fun W => neq47 x.id x.size 0 x.pin x.fr y.id y.size 0 y.pin y.fr W
        rw [hd1] at hdd
        clear hd1
        have HXY := Lib.hid hxy
        clear hxy
        go_wp2_with fail
        go_big_quiet (fail)
        go_wp2_with fail
        go_roundw
        case rel => exact ⟨j + 1, by omega, by go_num, by rw [TK.out, TK2.out, List.map_append, List.map_append, HT.out, List.map_singleton, List.map_singleton, HXY.out], (J.out.drewN _)⟩
        case measure => simp [intOf]; omega
      · have hd1 : decide (x.id = y.id ∧ x.size = y.size ∧ (0 : Int) = 0 ∧ x.pin = y.pin ∧ x.fr = y.fr) = false := decide_eq_false (fun ⟨e1, e2, _, e3, e4⟩ => hxy (by unfold infoV; rw [e1, e2, e3, e4]))
        have hdd := fun W => neq47 x.id x.size 0 x.pin x.fr y.id y.size 0 y.pin y.fr W
        rw [hd1] at hdd
        clear hd1
        have hd : decide (xs.map infoV = ys.map infoV) = false := decide_eq_false (fun e => hxy (by
          have h1 : (xs.map infoV)[j]? = some (infoV x) := by rw [List.getElem?_map, HX.out]; rfl
          rw [e, List.getElem?_map, HY.out] at h1
          exact (Option.some.inj h1).symm))
        rw [hd] at HR
        go_wp2_with fail
        go_big_quiet (fail)
        go_wp2_with fail
        exact HR.out _ _ ⟨rfl, (J.out.drewN _)⟩
    · obtain rfl : j = n1 := by omega
      have hd : decide (xs.map infoV = ys.map infoV) = true := decide_eq_true (by
        have := HT.out
        rw [List.take_of_length_le (by rw [N1.out]; exact Nat.le_refl _), List.take_of_length_le (by rw [N2.out]; exact Nat.le_refl _)] at this
        exact this)
      rw [hd] at HR
      go_wp2
      exact HR.out _ _ ⟨rfl, J.out⟩
section
variable {K : Nat → Prop} {w : World} {m : Nat} {S : MS}
theorem dump_md' (h : Md Tryz.prog K w m S) (G : Good S) (W : Wf S) :
    Calls Tryz.prog 12 #[bp m] w fun e w' => ∃ v, e = .returned v ∧ w'.ownsRow w.heap.size 9 1 v S.vols.length ((dumpS S).map strV) ∧ (v = .slice none 0 0 ↔ S.vols = []) ∧ Same w w' := by
  obtain ⟨ow, hm, _⟩ := h
  exact dump_any hm G W
theorem volumes_md' (h : Md Tryz.prog K w m S) (G : Good S) (W : Wf S) :
    Calls Tryz.prog 23 #[bp m] w fun e w' => ∃ v, e = .returned v ∧ w'.ownsRow w.heap.size 47 5 v S.vols.length (S.vols.flatMap infoC) ∧ (v = .slice none 0 0 ↔ S.vols = []) ∧ Same w w' := by
  obtain ⟨ow, hm, _⟩ := h
  exact volumes_any hm W (vols_len G W) (fun v hv => I64.of (by have := G.ids v hv; omega))
end
theorem dumpS_length (S : MS) : (dumpS S).length = S.vols.length := by unfold dumpS; simp
set_option maxHeartbeats 4000000 in
theorem same_models {K K' : Nat → Prop} {w : World} {m m2 : Nat} {S T : MS} (h1 : Md Tryz.prog K w m S) (G1 : Good S) (W1 : Wf S) (h2 : Md Tryz.prog K' w m2 T) (G2 : Good T) (W2 : Wf T) :
    Calls Tryz.prog 32 #[bp m, bp m2] w fun e w' => e = .returned (.bool (decide (infoS S = infoS T) && decide (dumpS S = dumpS T))) ∧ Same w w' := by
  refine opq fun R HR => ?_
  have H1 := Lib.hid h1
  have H2 := Lib.hid h2
  have V1 := Lib.hid (vols_len G1 W1)
  have V2 := Lib.hid (vols_len G2 W2)
  have A1 := Lib.hid (fun w' (M : Same w w') => volumes_md' (h1.same M) G1 W1)
  have A2 := Lib.hid (fun w' (M : Same w w') => volumes_md' (h2.same M) G2 W2)
  have D1 := Lib.hid (fun w' (M : Same w w') => dump_md' (h1.same M) G1 W1)
  have D2 := Lib.hid (fun w' (M : Same w w') => dump_md' (h2.same M) G2 W2)
  clear h1 h2 G1 G2 W1 W2
  go_enter Tryz.func32, Tryz.ntmps32
  go_wp2_with fail
  refine (A1.out w (Mod.refl _ _)).mono ?_
  rintro e w1 ⟨v1, rfl, ho1, -, M⟩
  have J1 := Lib.hid M
  have R1 := Lib.hid (TvS.owns ho1)
  obtain ⟨a1, c1, rfl⟩ := owns_slice ho1
  clear M ho1
  go_wp2_with fail
  refine (A2.out w1 J1.out).mono ?_
  rintro e w2 ⟨v2, rfl, ho2, -, M⟩
  have J2 := Lib.hid (J1.out.same M)
  have R1b := Lib.hid (R1.out.same M)
  have R2 := Lib.hid (TvS.owns ho2)
  obtain ⟨a2, c2, rfl⟩ := owns_slice ho2
  clear M ho2
  go_wp2_with fail
  refine (eqVs_any w2 _ _ S.vols T.vols R1b.out R2.out (by have := V1.out; omega) (by have := V2.out; omega)).mono ?_
  rintro e w3 ⟨rfl, M⟩
  have J3 := Lib.hid (J2.out.same M)
  clear M
  have hI : decide (S.vols.map infoV = T.vols.map infoV) = decide (infoS S = infoS T) := rfl
  rw [hI]
  by_cases q : infoS S = infoS T
  case neg =>
    have hd : decide (infoS S = infoS T) = false := decide_eq_false q
    rw [hd] at HR ⊢
    go_wp2_with fail
    exact HR.out _ _ ⟨rfl, J3.out⟩
  have hd : decide (infoS S = infoS T) = true := decide_eq_true q
  rw [hd] at HR ⊢
  go_wp2_with fail
  refine (D1.out w3 J3.out).mono ?_
  rintro e w4 ⟨v4, rfl, ho4, -, M⟩
  have J4 := Lib.hid (J3.out.same M)
  rw [← dumpS_length] at ho4
  have R4 := Lib.hid (TxS.owns ho4)
  obtain ⟨a4, c4, rfl⟩ := owns_slice ho4
  clear M ho4
  go_wp2_with fail
  refine (D2.out w4 J4.out).mono ?_
  rintro e w5 ⟨v5, rfl, ho5, -, M⟩
  have J5 := Lib.hid (J4.out.same M)
  have R4b := Lib.hid (R4.out.same M)
  rw [← dumpS_length] at ho5
  have R5 := Lib.hid (TxS.owns ho5)
  obtain ⟨a5, c5, rfl⟩ := owns_slice ho5
  clear M ho5
  go_wp2_with fail
  refine (eqTx_any w5 _ _ (dumpS S) (dumpS T) R4b.out R5.out (by rw [dumpS_length]; have := V1.out; omega) (by rw [dumpS_length]; have := V2.out; omega)).mono ?_
  rintro e w6 ⟨rfl, M⟩
  go_wp2_with fail
  exact HR.out _ _ ⟨by first | rfl | simp, J5.out.same M⟩
end Go.Proofs.YtlcepoagpocadaaGreatDoor
