import Derived.Test.YtjkndfenniongaaGreatDoorAwN
import Derived.Deep.DeepCutAuto
set_option linter.unusedSimpArgs false
set_option linter.unusedVariables false
set_option maxRecDepth 100000
/- The document's look at an image. -/
namespace Go.Proofs.YtjkndfenniongaaGreatDoor
open Go Go.RowKit
theorem info36 : (Tryz.prog.info? 36).map (fun i => (i.zero, i.size, i.bytes)) = some (some (.agg #[.string ⟨#[]⟩, .int .i64 0, .int .i64 0, .slice none 0 0]), 4, 56) := by kernel_rfl
theorem pd_new (w : World) (x : Pd) (t : TypeId) : ∀ j u, (pdC x)[j]? = some u → (w.alloc (.cells #[kS x.k, .int .i64 x.l, .int .i64 x.p, .slice none 0 0] t)).cell? (Addr.add ⟨w.heap.size, 0, none⟩ j) = some u := by
  intro j u hu
  have hadd : (⟨w.heap.size, 0, none⟩ : Addr).add j = ⟨w.heap.size, j, none⟩ := by unfold Addr.add; split <;> simp_all
  rw [hadd]
  refine ((Blk.new w _ t).cell j).trans ?_
  match j, hu with
  | 0, hu => exact hu
  | 1, hu => exact hu
  | 2, hu => exact hu
  | 3, hu => exact hu
theorem pd_cells (x : Pd) : ∀ u ∈ pdC x, u.oneCell' = true := fun u hu => by
  unfold pdC at hu
  simp at hu
  rcases hu with rfl | rfl | rfl | rfl <;> rfl
def RLook (l : List UInt8) (B : Nat) (e : Ending) (w' : World) : Prop := match lookW (secs l) with
  | none => e = .returned (.tuple #[.slice none 0 0, .bool false])
  | some L => ∃ g c V, e = .returned (.tuple #[.slice (some ⟨g, 0, none⟩) L.length c, .bool true]) ∧ Pgd B (fun i => i < B) w' g V L
theorem rnew_shape (a b : List UInt8) (ha : a.length = 16) (hb : b.length = 16) (w : World) : Calls Tryz.prog 20 #[strV a, strV b] w fun e w' => (∃ h i, e = .returned (.tuple #[hdV h, .int .i64 i, .bool (newest a b).isSome]) ∧ ∀ p, newest a b = some p → h = p.1) ∧ Same w w' := by
  refine (rnewest_any a b ha hb w).mono ?_
  rintro e w' ⟨h, M⟩
  refine ⟨?_, M⟩
  unfold RNew at h
  cases hn : newest a b with
  | none => rw [hn] at h; exact ⟨zeroH, 0, h, fun p q => by cases q⟩
  | some p => rw [hn] at h; exact ⟨p.1, p.2, h, fun q r => by cases r; rfl⟩
def KOk2 (S : List (List UInt8)) (L : List Pd) : Prop := ∀ i x, L[i]? = some x → (i = 0 ∧ x.k = 72) ∨ (1 ≤ i ∧ x.k = 46) ∨ (1 ≤ i ∧ (x.k = 73 ∨ x.k = 77 ∨ x.k = 83) ∧ ∃ lv l, leafP (pageS S i) = some (lv, l))
theorem kok2_set {S : List (List UInt8)} {L : List Pd} (h : KOk2 S L) {q : Nat} (hq : 1 ≤ q ∧ ∃ lv l, leafP (pageS S q) = some (lv, l)) (y : Pd) (hy : y.k = 73 ∨ y.k = 77 ∨ y.k = 83) : KOk2 S (L.set q y) := by
  intro i x hx
  by_cases e : i = q
  · subst e
    rw [List.getElem?_set] at hx
    split at hx
    · split at hx
      · cases hx; exact .inr (.inr ⟨hq.1, hy, hq.2⟩)
      · cases hx
    · rename_i r; exact absurd rfl r
  · rw [List.getElem?_set_ne (fun r => e r.symm)] at hx
    exact h i x hx
theorem mapIds_kok2 {S : List (List UInt8)} (id : Int) : ∀ (P : List Int) (L : List Pd), (∀ p ∈ P, 1 ≤ p.toNat ∧ ∃ lv l, leafP (pageS S p.toNat) = some (lv, l)) → KOk2 S L → KOk2 S (mapIds id P L)
  | [], L, _, h => h
  | p :: r, L, hp, h => by
    rw [mapIds]
    cases hx : L[p.toNat]? with
    | none => exact mapIds_kok2 id r L (fun q hq => hp q (by simp [hq])) h
    | some x =>
      exact mapIds_kok2 id r (L.set p.toNat (mapP id x)) (fun q hq => hp q (by simp [hq])) (kok2_set h (hp p (by simp)) _ (by unfold mapP; dsimp only; split <;> omega))
theorem setI_kok2 {S : List (List UInt8)} : ∀ (P : List Int) (L : List Pd), (∀ p ∈ P, 1 ≤ p.toNat ∧ ∃ lv l, leafP (pageS S p.toNat) = some (lv, l)) → KOk2 S L → KOk2 S (setI P L)
  | [], L, _, h => h
  | p :: r, L, hp, h => by
    rw [setI]
    cases hx : L[p.toNat]? with
    | none => exact setI_kok2 r L (fun q hq => hp q (by simp [hq])) h
    | some x =>
      exact setI_kok2 r (L.set p.toNat { x with k := 73 }) (fun q hq => hp q (by simp [hq])) (kok2_set h (hp p (by simp)) _ (.inl rfl))
theorem mapsW_kok2 {S : List (List UInt8)} : ∀ (V : List Vl) (L L2 : List Pd), mapsW S V L = some L2 → KOk2 S L → KOk2 S L2
  | [], L, L2, h, k => by simp only [mapsW] at h; cases h; exact k
  | v :: r, L, L2, h, k => by
    simp only [mapsW] at h
    cases hw : walkW S v.root with
    | none => rw [hw] at h; cases h
    | some st =>
      rw [hw] at h
      exact mapsW_kok2 r _ L2 h (mapIds_kok2 v.id st.1 L (walk_ok hw) k)
theorem blank_kok2 (S : List (List UInt8)) (n : Nat) : KOk2 S (blankD n) := by
  intro i x hx
  obtain ⟨_, rfl⟩ := blankD_get hx
  by_cases q : i = 0
  · left; rw [if_pos q]; exact ⟨q, rfl⟩
  · right; left; rw [if_neg q]; exact ⟨by omega, rfl⟩
set_option maxHeartbeats 32000000 in
theorem rlook33_any (l : List UInt8) (hl : l.length ≤ 32768) (w : World) : Calls Tryz.prog 8 #[strV l] w fun e w' => RLook l w.heap.size e w' ∧ Same w w' := by
  refine opq fun R HR => ?_
  unfold RLook at HR
  have hls : (⟨l.toArray⟩ : ByteArray).size = l.length := bytes_size l
  obtain ⟨ll, hll⟩ : ∃ z, l.length = z := ⟨_, rfl⟩
  have HLL := Lib.hid hll
  rw [hll] at hls
  have hl2 : ll ≤ 32768 := by omega
  have hdq : ((ll : Int)).tdiv 256 = ((ll / 256 : Nat) : Int) := by
    rw [Int.tdiv_eq_ediv_of_nonneg (by omega)]; rfl
  unfold strV
  by_cases h2 : 2 ≤ ll / 256
  · have hlo : 512 ≤ ll := by omega
    have hi16 : (16 : Int) ≤ (ll : Int) := by omega
    have hi32 : (32 : Int) ≤ (ll : Int) := by omega
    have x1 : (⟨l.toArray⟩ : ByteArray).extract 0 16 = ⟨(l.take 16).toArray⟩ := by rw [ext_bytes]; rfl
    have x2 : (⟨l.toArray⟩ : ByteArray).extract 16 32 = ⟨((l.drop 16).take 16).toArray⟩ := ext_bytes l 16 32
    have HNw := Lib.hid (fun w => rnew_shape (l.take 16) ((l.drop 16).take 16) (by simp; omega) (by simp; omega) w)
    have HNo := Lib.hid (fun w => nodes_any l hl w)
    unfold strV at HNw HNo
    have d1 : decide (((ll / 256 : Nat) : Int) < 2) = false := decide_eq_false (by omega)
    have d1' : decide (ll / 256 < 2) = false := decide_eq_false (by omega)
    have d1z : decide ((ll : Int) / 256 < 2) = false := decide_eq_false (by omega)
    have d1y : ¬ ll / 256 < 2 := by omega
    have d1x : ¬ (ll : Int) / 256 < 2 := by omega
    clear hll
    go_enter Tryz.func8, Tryz.ntmps8
    have LW := Lib.hid (fun root => look_walk l hl (by rw [HLL.out]; exact h2) root)
    have HOp := Lib.hid (open_same l hl (by rw [HLL.out]; exact h2))
    have HNpS := Lib.hid (np_same l hl)
    rw [HLL.out] at LW HNo HNpS
    obtain ⟨np, hnp⟩ : ∃ z, min (ll / 256) 512 = z := ⟨_, rfl⟩
    have hnp2 : 2 ≤ np ∧ np ≤ 512 := by omega
    rw [hnp] at LW HNo HNpS
    unfold lookW at HR
    rw [HOp.out, HNpS.out] at HR
    clear hnp HOp
    go_upto_region 3 with fail
    have A0 := Lib.hid (show Same w w.drew from (Mod.refl _ _).drew)
    go_cut [4, 5, 6] (fun v4 v5 v6 wx => ∃ (b : Nat) (h : Hd) (i : Int), v4 = bp b ∧ v5 = .int .i64 i ∧ v6 = .bool (newest (l.take 16) ((l.drop 16).take 16)).isSome ∧ Blk wx b (hdC h) ∧ Same w wx ∧ ∀ p, newest (l.take 16) ((l.drop 16).take 16) = some p → h = p.1)
    case first =>
      refine wp_region_held_drew (S := fun w' => True) (by kernel_rfl) (by (try dsimp only); all_goals trivial) (fun hHeld => ?_)
      refine wpAnyH_take (i := 0) (v := ?_) rfl (by kernel_rfl) (by kernel_rfl) (by kernel_rfl) (fun _ _ _ h => h) (Or.inl ⟨by rfl, ?_⟩) (by assumption) ?_
      rotate_left
      · intro w hSw
        try dsimp only at hSw
        go_simp
        try with_reducible rfl
      try simp only [List.getElem_toArray, List.getElem_cons_succ, List.getElem_cons_zero, Act.put, List.setIfInBounds_toArray, List.set_cons_zero, List.set_cons_succ]
      refine wpAnyH_take (i := 1) (v := ?_) rfl (by kernel_rfl) (by kernel_rfl) (by kernel_rfl) (fun _ _ _ h => h) (Or.inl ⟨by rfl, ?_⟩) (by assumption) ?_
      rotate_left
      · intro w hSw
        try dsimp only at hSw
        go_simp
        try with_reducible rfl
      try simp only [List.getElem_toArray, List.getElem_cons_succ, List.getElem_cons_zero, Act.put, List.setIfInBounds_toArray, List.set_cons_zero, List.set_cons_succ]
      refine wpAnyH_take (i := 2) (v := ?_) rfl (by kernel_rfl) (by kernel_rfl) (by kernel_rfl) (fun _ _ _ h => h) (Or.inl ⟨by rfl, ?_⟩) (by assumption) ?_
      rotate_left
      · intro w hSw
        try dsimp only at hSw
        go_simp
        try with_reducible rfl
      try simp only [List.getElem_toArray, List.getElem_cons_succ, List.getElem_cons_zero, Act.put, List.setIfInBounds_toArray, List.set_cons_zero, List.set_cons_succ]
      refine wpAnyH_take (i := 3) (v := ?_) rfl (by kernel_rfl) (by kernel_rfl) (by kernel_rfl) (fun _ _ _ h => h) (Or.inl ⟨by rfl, ?_⟩) (by assumption) ?_
      rotate_left
      · intro w hSw
        try dsimp only at hSw
        go_simp
        try with_reducible rfl
      try simp only [List.getElem_toArray, List.getElem_cons_succ, List.getElem_cons_zero, Act.put, List.setIfInBounds_toArray, List.set_cons_zero, List.set_cons_succ]
      refine wpAnyH_ready (rs := [4, 9]) (by kernel_rfl) (by simp) ?_
      refine AllReadyH.cons rfl (fun Kc hKc => ?_) (AllReadyH.cons rfl (fun Kc hKc => ?_) (AllReadyH.nil))
      · go_simp
        refine (HNw.out _).mono ?_
        rintro e wB ⟨⟨hh, ix, rfl, hhp⟩, MA⟩
        have A1 := Lib.hid (A0.out.same MA)
        have HHP := Lib.hid hhp
        obtain ⟨gen, root, s0, s1, ch⟩ := hh
        clear MA hhp
        dsimp only [hdV, hdC]
        go_wp2_with fail
        refine hKc.out _ _ (by (try dsimp only); all_goals trivial) (fun hHeld => ?_)
        clear hKc Kc
        try simp only [List.getElem_toArray, List.getElem_cons_succ, List.getElem_cons_zero, Act.put, List.setIfInBounds_toArray, List.set_cons_zero, List.set_cons_succ]
        refine wpAnyH_take (i := 5) (v := ?_) rfl (by kernel_rfl) (by kernel_rfl) (by kernel_rfl) (fun _ _ _ h => h) (Or.inl ⟨by rfl, ?_⟩) (by assumption) ?_
        rotate_left
        · intro w hSw
          try dsimp only at hSw
          go_simp
          try with_reducible rfl
        try simp only [List.getElem_toArray, List.getElem_cons_succ, List.getElem_cons_zero, Act.put, List.setIfInBounds_toArray, List.set_cons_zero, List.set_cons_succ]
        refine wpAnyH_take (i := 6) (v := ?_) rfl (by kernel_rfl) (by kernel_rfl) (by kernel_rfl) (fun _ _ _ h => h) (Or.inl ⟨by rfl, ?_⟩) (by assumption) ?_
        rotate_left
        · intro w hSw
          try dsimp only at hSw
          go_simp
          try with_reducible rfl
        try simp only [List.getElem_toArray, List.getElem_cons_succ, List.getElem_cons_zero, Act.put, List.setIfInBounds_toArray, List.set_cons_zero, List.set_cons_succ]
        refine wpAnyH_take (i := 7) (v := ?_) rfl (by kernel_rfl) (by kernel_rfl) (by kernel_rfl) (fun _ _ _ h => h) (Or.inl ⟨by rfl, ?_⟩) (by assumption) ?_
        rotate_left
        · intro w hSw
          try dsimp only at hSw
          go_simp
          try with_reducible rfl
        try simp only [List.getElem_toArray, List.getElem_cons_succ, List.getElem_cons_zero, Act.put, List.setIfInBounds_toArray, List.set_cons_zero, List.set_cons_succ]
        refine wpAnyH_take (i := 8) (v := ?_) rfl (by kernel_rfl) (by kernel_rfl) (by kernel_rfl) (fun _ _ _ h => h) (Or.inl ⟨by rfl, ?_⟩) (by assumption) ?_
        rotate_left
        · intro w hSw
          try dsimp only at hSw
          go_simp
          try with_reducible rfl
        try simp only [List.getElem_toArray, List.getElem_cons_succ, List.getElem_cons_zero, Act.put, List.setIfInBounds_toArray, List.set_cons_zero, List.set_cons_succ]
        refine wpAnyH_ready (rs := [9]) (by kernel_rfl) (by simp) ?_
        refine AllReadyH.cons rfl (fun Kc hKc => ?_) AllReadyH.nil
        have A2 := Lib.hid (A1.out.alloc (.cells #[.int .u64 0, .int .i64 0, .int .i64 0, .int .i64 0, .int .i64 0] 53))
        have BN := Lib.hid (show Blk _ wB.heap.size _ from Blk.new (wB) #[.int .u64 0, .int .i64 0, .int .i64 0, .int .i64 0, .int .i64 0] 53)
        go_simp
        refine hKc.out _ _ (by (try dsimp only); all_goals trivial) (fun hHeld => ?_)
        clear hKc Kc
        try simp only [List.getElem_toArray, List.getElem_cons_succ, List.getElem_cons_zero, Act.put, List.setIfInBounds_toArray, List.set_cons_zero, List.set_cons_succ]
        refine wpAnyH_ready (rs := [10]) (by kernel_rfl) (by simp) ?_
        refine AllReadyH.cons rfl (fun Kc hKc => ?_) AllReadyH.nil
        have BF := Lib.hid (Blk.new wB #[.int .u64 gen, .int .i64 root, .int .i64 s0, .int .i64 s1, .int .i64 ch] 53)
        have AF := Lib.hid (A1.out.alloc (.cells #[.int .u64 gen, .int .i64 root, .int .i64 s0, .int .i64 s1, .int .i64 ch] 53))
        go_simp
        refine hKc.out _ _ (by (try dsimp only); all_goals trivial) (fun hHeld => ?_)
        clear hKc Kc
        try simp only [List.getElem_toArray, List.getElem_cons_succ, List.getElem_cons_zero, Act.put, List.setIfInBounds_toArray, List.set_cons_zero, List.set_cons_succ]
        refine wpAnyH_take (i := 11) (v := ?_) rfl (by kernel_rfl) (by kernel_rfl) (by kernel_rfl) (fun _ _ _ h => h) (Or.inl ⟨by rfl, ?_⟩) (by assumption) ?_
        rotate_left
        · intro w hSw
          try dsimp only at hSw
          go_simp
          try with_reducible rfl
        try simp only [List.getElem_toArray, List.getElem_cons_succ, List.getElem_cons_zero, Act.put, List.setIfInBounds_toArray, List.set_cons_zero, List.set_cons_succ]
        refine wpAnyH_take (i := 12) (v := ?_) rfl (by kernel_rfl) (by kernel_rfl) (by kernel_rfl) (fun _ _ _ h => h) (Or.inl ⟨by rfl, ?_⟩) (by assumption) ?_
        rotate_left
        · intro w hSw
          try dsimp only at hSw
          go_simp
          try with_reducible rfl
        try simp only [List.getElem_toArray, List.getElem_cons_succ, List.getElem_cons_zero, Act.put, List.setIfInBounds_toArray, List.set_cons_zero, List.set_cons_succ]
        refine wpAnyH_done (by kernel_rfl) ?_ _
        go_wp2_with fail
        go_meet
        case rel => exact ⟨_, ⟨gen, root, s0, s1, ch⟩, ix, rfl, rfl, rfl, BF.out, AF.out, HHP.out⟩
      · have A1 := Lib.hid (A0.out.alloc (.cells #[.int .u64 0, .int .i64 0, .int .i64 0, .int .i64 0, .int .i64 0] 53))
        have BN := Lib.hid (show Blk _ w.heap.size _ from Blk.new (w.drew) #[.int .u64 0, .int .i64 0, .int .i64 0, .int .i64 0, .int .i64 0] 53)
        go_simp
        refine hKc.out _ _ (by (try dsimp only); all_goals trivial) (fun hHeld => ?_)
        clear hKc Kc
        try simp only [List.getElem_toArray, List.getElem_cons_succ, List.getElem_cons_zero, Act.put, List.setIfInBounds_toArray, List.set_cons_zero, List.set_cons_succ]
        refine wpAnyH_ready (rs := [4]) (by kernel_rfl) (by simp) ?_
        refine AllReadyH.cons rfl (fun Kc hKc => ?_) AllReadyH.nil
        go_simp
        refine (HNw.out _).mono ?_
        rintro e wB ⟨⟨hh, ix, rfl, hhp⟩, MA⟩
        have A2 := Lib.hid (A1.out.same MA)
        have HHP := Lib.hid hhp
        obtain ⟨gen, root, s0, s1, ch⟩ := hh
        have BN := Lib.hid (BN.out.mod MA (fun q => q))
        clear MA hhp
        dsimp only [hdV, hdC]
        go_wp2_with fail
        refine hKc.out _ _ (by (try dsimp only); all_goals trivial) (fun hHeld => ?_)
        clear hKc Kc
        try simp only [List.getElem_toArray, List.getElem_cons_succ, List.getElem_cons_zero, Act.put, List.setIfInBounds_toArray, List.set_cons_zero, List.set_cons_succ]
        refine wpAnyH_take (i := 5) (v := ?_) rfl (by kernel_rfl) (by kernel_rfl) (by kernel_rfl) (fun _ _ _ h => h) (Or.inl ⟨by rfl, ?_⟩) (by assumption) ?_
        rotate_left
        · intro w hSw
          try dsimp only at hSw
          go_simp
          try with_reducible rfl
        try simp only [List.getElem_toArray, List.getElem_cons_succ, List.getElem_cons_zero, Act.put, List.setIfInBounds_toArray, List.set_cons_zero, List.set_cons_succ]
        refine wpAnyH_take (i := 6) (v := ?_) rfl (by kernel_rfl) (by kernel_rfl) (by kernel_rfl) (fun _ _ _ h => h) (Or.inl ⟨by rfl, ?_⟩) (by assumption) ?_
        rotate_left
        · intro w hSw
          try dsimp only at hSw
          go_simp
          try with_reducible rfl
        try simp only [List.getElem_toArray, List.getElem_cons_succ, List.getElem_cons_zero, Act.put, List.setIfInBounds_toArray, List.set_cons_zero, List.set_cons_succ]
        refine wpAnyH_take (i := 7) (v := ?_) rfl (by kernel_rfl) (by kernel_rfl) (by kernel_rfl) (fun _ _ _ h => h) (Or.inl ⟨by rfl, ?_⟩) (by assumption) ?_
        rotate_left
        · intro w hSw
          try dsimp only at hSw
          go_simp
          try with_reducible rfl
        try simp only [List.getElem_toArray, List.getElem_cons_succ, List.getElem_cons_zero, Act.put, List.setIfInBounds_toArray, List.set_cons_zero, List.set_cons_succ]
        refine wpAnyH_take (i := 8) (v := ?_) rfl (by kernel_rfl) (by kernel_rfl) (by kernel_rfl) (fun _ _ _ h => h) (Or.inl ⟨by rfl, ?_⟩) (by assumption) ?_
        rotate_left
        · intro w hSw
          try dsimp only at hSw
          go_simp
          try with_reducible rfl
        try simp only [List.getElem_toArray, List.getElem_cons_succ, List.getElem_cons_zero, Act.put, List.setIfInBounds_toArray, List.set_cons_zero, List.set_cons_succ]
        refine wpAnyH_ready (rs := [10]) (by kernel_rfl) (by simp) ?_
        refine AllReadyH.cons rfl (fun Kc hKc => ?_) AllReadyH.nil
        have q0 := BN.out.at_ (i := 0) _ rfl
        have qf0 := BN.out.free 0
        have q1 := BN.out.at_ (i := 1) _ rfl
        have qf1 := BN.out.free 1
        have q2 := BN.out.at_ (i := 2) _ rfl
        have qf2 := BN.out.free 2
        have q3 := BN.out.at_ (i := 3) _ rfl
        have qf3 := BN.out.free 3
        have q4 := BN.out.at_ (i := 4) _ rfl
        have qf4 := BN.out.free 4
        have BF := Lib.hid (five_set BN.out (.int .u64 gen) (.int .i64 root) (.int .i64 s0) (.int .i64 s1) (.int .i64 ch))
        have AF := Lib.hid (A2.out.then_ (five_mod _ w.heap.size (.int .u64 gen) (.int .i64 root) (.int .i64 s0) (.int .i64 s1) (.int .i64 ch)) (fun i hi q => by omega))
        go_simp
        refine hKc.out _ _ (by (try dsimp only); all_goals trivial) (fun hHeld => ?_)
        clear hKc Kc
        try simp only [List.getElem_toArray, List.getElem_cons_succ, List.getElem_cons_zero, Act.put, List.setIfInBounds_toArray, List.set_cons_zero, List.set_cons_succ]
        refine wpAnyH_take (i := 11) (v := ?_) rfl (by kernel_rfl) (by kernel_rfl) (by kernel_rfl) (fun _ _ _ h => h) (Or.inl ⟨by rfl, ?_⟩) (by assumption) ?_
        rotate_left
        · intro w hSw
          try dsimp only at hSw
          go_simp
          try with_reducible rfl
        try simp only [List.getElem_toArray, List.getElem_cons_succ, List.getElem_cons_zero, Act.put, List.setIfInBounds_toArray, List.set_cons_zero, List.set_cons_succ]
        refine wpAnyH_take (i := 12) (v := ?_) rfl (by kernel_rfl) (by kernel_rfl) (by kernel_rfl) (fun _ _ _ h => h) (Or.inl ⟨by rfl, ?_⟩) (by assumption) ?_
        rotate_left
        · intro w hSw
          try dsimp only at hSw
          go_simp
          try with_reducible rfl
        try simp only [List.getElem_toArray, List.getElem_cons_succ, List.getElem_cons_zero, Act.put, List.setIfInBounds_toArray, List.set_cons_zero, List.set_cons_succ]
        refine wpAnyH_done (by kernel_rfl) ?_ _
        go_wp2_with fail
        go_meet
        case rel => exact ⟨_, ⟨gen, root, s0, s1, ch⟩, ix, rfl, rfl, rfl, BF.out, AF.out, HHP.out⟩
    case rest =>
      obtain ⟨b4, hd4, ix, rfl, rfl, rfl, hb4, M, hhp⟩ := hcut
      have K3 := Lib.hid M
      have B3 := Lib.hid hb4
      have HHP := Lib.hid hhp
      clear M hb4 hhp A0 HNw d1 d1' d1z d1y d1x hi16 hi32 x1 x2
      have HGn := Lib.hid (fun (p : Hd × Nat) (hq : newest (l.take 16) ((l.drop 16).take 16) = some p) => openS_good (S := secs l) (h := p.1) (i := p.2) ((open_same l hl (by rw [HLL.out]; exact h2)).trans hq))
      go_wp2_with fail
      refine (HNo.out _).mono ?_
      rintro e w4 ⟨⟨an, cn, rfl, hnds⟩, M⟩
      have K4 := Lib.hid (K3.out.same M)
      have B4 := Lib.hid (B3.out.mod M (fun q => q))
      have ND4 := Lib.hid hnds
      clear M hnds K3 B3 HNo
      cases hnw : newest (l.take 16) ((l.drop 16).take 16) with
      | none =>
        rw [hnw] at HR
        dsimp only at HR
        dsimp only [Option.isSome]
        clear hnw
        go_wp2_with fail
        exact HR.out _ _ ⟨rfl, K4.out⟩
      | some p =>
        obtain ⟨hh, ix2⟩ := p
        have hgd := goodH_bounds (HGn.out _ hnw)
        have hhe := HHP.out _ hnw
        dsimp only at hgd hhe
        subst hhe
        rw [hnw] at HR
        dsimp only at HR
        dsimp only [Option.isSome]
        have hroot : I64 hd4.root := by unfold I64; omega
        obtain ⟨gen, root, s0, s1, ch⟩ := hd4
        dsimp only at HR hroot hgd
        have r1 := B4.out.at_ (i := 1) _ rfl
        have HLk := Lib.hid (fun (rt : Int) (hr : I64 rt) w' (M : Same w4 w') => rlook_any (c := cn) (ND4.out.same M) (fun i => nodeD_len l (i + 1)) (fun i => nodeD_u64 l (i + 1)) (by omega : np - 1 ≤ 511) rt hr)
        clear hnw HGn HHP hgd
        go_wp2_with fail
        refine (HLk.out root hroot w4 (Mod.refl _ _)).mono ?_
        rintro e w5 ⟨k, rfl, hk, M, hlt⟩
        have K5 := Lib.hid (show Same w4 w5 from M)
        rw [LW.out root] at hlt
        clear M r1 B4
        cases hw : walkW (secs l) root with
        | none =>
          rw [hw] at HR hlt
          dsimp only at HR
          obtain ⟨pv, qv, st, hW⟩ := hlt
          obtain ⟨qa, qc, rfl, hPr⟩ := prs_own hW.qo
          have hsh := hW.short
          have hqn := hW.qn
          have HV := Lib.hid (rlist_any qa qc st.2 (by omega) hW.qu w5 hPr)
          have e1 := hW.blk.at_ (i := 1) _ rfl
          have HB := Lib.hid hW.blk
          unfold RVols at HV
          clear hW hPr
          go_wp2_with fail
          refine HV.out.mono ?_
          rintro e w6 ⟨hrv, M⟩
          have K6 := Lib.hid (K4.out.same (K5.out.same M))
          have e2 := (HB.out.mod M (fun q => q)).at_ (i := 2) _ rfl
          clear M HB e1 HV
          cases hvd : volsD st.2 with
          | none =>
            rw [hvd] at hrv
            dsimp only at hrv
            subst hrv
            go_wp2_with fail
            exact HR.out _ _ ⟨rfl, K6.out⟩
          | some V =>
            rw [hvd] at hrv
            obtain ⟨va, vc, rfl, -, -⟩ := hrv
            go_wp2_with fail
            exact HR.out _ _ ⟨rfl, K6.out⟩
        | some st =>
          have hpu := walk_pairs hw
          have htv : treeVols (secs l) root = volsD st.2 := by
            unfold treeVols
            rw [hw, volsD_same st.2 hpu]; rfl
          have HPg := Lib.hid (walk_pages hw)
          rw [hw] at HR hlt
          dsimp only at HR
          unfold mapsAll at HR
          rw [htv] at HR
          obtain ⟨pv, qv, hW⟩ := hlt
          obtain ⟨qa, qc, rfl, hPr⟩ := prs_own hW.qo
          obtain ⟨pa, pc, rfl, hPi⟩ := ins_own hW.po
          have hsh := hW.short
          have hqn := hW.qn
          have HV := Lib.hid (rlist_any qa qc st.2 (by omega) hW.qu w5 hPr)
          have e1 := hW.blk.at_ (i := 1) _ rfl
          have HB := Lib.hid hW.blk
          have HPi := Lib.hid hPi
          unfold RVols at HV
          clear hW hPr hPi htv hpu hw
          go_wp2_with fail
          refine HV.out.mono ?_
          rintro e w6 ⟨hrv, M⟩
          have K6 := Lib.hid (show Same w4 w6 from K5.out.same M)
          have HB6 := Lib.hid (HB.out.mod M (fun q => q))
          have HPi6 := Lib.hid (HPi.out.same M)
          have e2 := HB6.out.at_ (i := 2) _ rfl
          clear M HB e1 HV HPi
          cases hvd : volsD st.2 with
          | none =>
            rw [hvd] at hrv HR
            dsimp only [Option.bind, Option.map] at hrv HR
            subst hrv
            go_wp2_with fail
            exact HR.out _ _ ⟨rfl, K4.out.same K6.out⟩
          | some VL =>
            have hgv : ∀ v ∈ VL, goodV v = true := by
              have : ∀ (L : List (Int × Int)) (V : List Vl), volsD L = some V → ∀ v ∈ V, goodV v = true := by
                intro L
                induction L with
                | nil => intro V h v hv; simp only [volsD] at h; cases h; simp at hv
                | cons x r ih =>
                  intro V h v hv
                  simp only [volsD] at h
                  split at h
                  · cases hx : readV x with
                    | none => rw [hx] at h; cases h
                    | some u =>
                      rw [hx] at h
                      cases hr : volsD r with
                      | none => rw [hr] at h; cases h
                      | some V' =>
                        rw [hr] at h
                        cases h
                        rcases List.mem_cons.1 hv with q | q
                        · subst q
                          unfold readV at hx
                          split at hx
                          · rename_i q; cases hx; exact q.1
                          · cases hx
                        · exact ih V' hr v q
                  · exact ih V h v hv
              exact this _ _ hvd
            rw [hvd] at hrv HR
            dsimp only [Option.bind] at hrv HR
            obtain ⟨va, vc, rfl, hVls, hvfr, hvl⟩ := hrv
            have HVl := Lib.hid hVls
            have HG := Lib.hid hgv
            have hwz : w4.heap.size ≤ w6.heap.size := K6.out.size
            clear hVls hgv hvd hvfr
            have O1 := Lib.hid (show (w6.alloc (.cells #[.string ⟨#[72]⟩, .int .i64 0, .int .i64 0, .slice none 0 0] 36)).ownsRow w6.heap.size 36 4 (.slice (some ⟨w6.heap.size, 0, none⟩) 1 1) 1 ((blankD 1).flatMap pdC) from own_one w6 w6.heap.size 4 36 #[.string ⟨#[72]⟩, .int .i64 0, .int .i64 0, .slice none 0 0] (Nat.le_refl _) rfl)
            have M1 := Lib.hid (show Same w6 (w6.alloc (.cells #[.string ⟨#[72]⟩, .int .i64 0, .int .i64 0, .slice none 0 0] 36)) from (Mod.refl _ _).alloc _)
            obtain ⟨i36, hi, hz0, hz1, hz2⟩ := info_parts info36
            have I0 := Lib.hid hi
            have Z0 := Lib.hid hz0
            have Z1 := Lib.hid hz1
            have Z2 := Lib.hid hz2
            clear hi hz0 hz1 hz2
            go_wp2_with fail
            generalize w6.alloc _ = W7 at *
            go_loopw [11, 12] (fun vo vi wr => ∃ j : Nat, j ≤ np - 1 ∧ vi = .int .i64 (j : Int) ∧ wr.ownsRow w6.heap.size 36 4 vo (j + 1) ((blankD (j + 1)).flatMap pdC) ∧ Same w6 wr) (fun _ vi _ => np - (intOf vi).toNat)
            case atStart => exact ⟨0, by omega, rfl, O1.out, M1.out⟩
            case round =>
              obtain ⟨j, hj, rfl, hown, hM⟩ := hrel
              have OW := Lib.hid hown
              have J := Lib.hid hM
              have hwr : w6.heap.size ≤ wr.heap.size := hM.size
              clear hown hM
              by_cases hlt : j < np - 1
              · have HBd := Lib.hid (blankD_succ (j + 1) (by omega))
                have hnl : (j : Int) < ((np - 1 : Nat) : Int) := by omega
                go_wp2_with (at_builtin; refine wpList_append_lies _ rfl (.tmp 64) (.tmp 66) 29 rfl w6.heap.size 36 i36 (.agg #[.string ⟨#[]⟩, .int .i64 0, .int .i64 0, .slice none 0 0]) 4 56 Tryz.underlying29 I0.out Z0.out Z1.out Z2.out rfl (by decide) _ (j + 1) _ rfl (OW.out.alloc _) ⟨wr.heap.size, 0, none⟩ 1 1 (pdC ⟨46, 0, 0, []⟩) rfl rfl (pd_new wr ⟨46, 0, 0, []⟩ 36) (pd_cells _) (by decide) (by unfold maxLen; omega) (by omega) (by simp only [World.size_alloc]; omega) _ rfl ?_; intro g cap w8 hown8 hgrow hgb hglt; have P8 := Lib.hid (same_app4 (J.out.alloc _) (OW.out.alloc _) hgrow); have Q8 := Lib.hid hown8; clear hown8 hgrow hgb hglt)
                go_roundw
                case rel => exact ⟨j + 1, by omega, by go_num, by rw [HBd.out, List.flatMap_append]; simpa using Q8.out, P8.out⟩
                case measure => simp [intOf]; omega
              · obtain rfl : j = np - 1 := by omega
                have hnp1 : np - 1 + 1 = np := by omega
                have hOW := OW.out
                rw [hnp1] at hOW
                obtain ⟨g, cg, hv, hgb, -, -⟩ := RowV.of_owns hOW (by omega)
                subst hv
                have P0 := Lib.hid (blank_pgdoc (B := w6.heap.size) (F := (fun i => i < w6.heap.size)) hOW (by omega) (by omega) (fun i q => Nat.lt_of_lt_of_le q hwr))
                obtain ⟨nv, hnv⟩ : ∃ z, VL.length = z := ⟨_, rfl⟩
                have HNV := Lib.hid hnv
                obtain ⟨res, hres⟩ : ∃ z, mapsW (secs l) VL (blankD np) = z := ⟨_, rfl⟩
                have HRes := Lib.hid hres
                rw [hnv] at hvl ⊢
                rw [hres] at HR
                have hnlf : ¬ ((np - 1 : Nat) : Int) < ((np - 1 : Nat) : Int) := by omega
                have J7 := Lib.hid J.out
                clear hnv hres hOW OW O1 M1
                go_wp2_with fail
                go_loopw [13] (fun vi wr => ∃ (j : Nat) (V' : Nat → Value) (L' : List Pd), j ≤ nv ∧ vi = .int .i64 (j : Int) ∧ Pgd w6.heap.size (fun i => i < w6.heap.size) wr g V' L' ∧ L'.length = np ∧ (∀ x ∈ L', x.vs.length ≤ j * 511) ∧ mapsW (secs l) (VL.drop j) L' = res ∧ Same w6 wr) (fun vi _ => nv - (intOf vi).toNat)
                case atStart => exact ⟨0, _, _, by omega, rfl, P0.out, blankD_len np, fun x hx => by
                  obtain ⟨i, hi⟩ := List.getElem?_of_mem hx
                  obtain ⟨_, rfl⟩ := blankD_get hi
                  by_cases q : i = 0
                  · rw [if_pos q]; simp
                  · rw [if_neg q]; simp, HRes.out, J7.out⟩
                case round =>
                  obtain ⟨j, V', L', hj2, rfl, hp, hn', hb', hr', hM⟩ := hrel
                  have PR := Lib.hid hp
                  have HN' := Lib.hid hn'
                  have HB' := Lib.hid hb'
                  have HR' := Lib.hid hr'
                  have J8 := Lib.hid hM
                  have hw6r : w6.heap.size ≤ wr.heap.size := hM.size
                  clear hp hn' hb' hr' hM
                  obtain ⟨wo, hwo⟩ : ∃ wo, wo = wr := ⟨wr, rfl⟩
                  subst hwo
                  by_cases hlt2 : j < nv
                  · obtain ⟨b, o, rfl, hb, hc⟩ := HVl.out (by rw [HNV.out]; omega)
                    obtain ⟨v, hv⟩ : ∃ x, VL[j]? = some x := ⟨_, List.getElem?_eq_getElem (by rw [HNV.out]; exact hlt2)⟩
                    have hdv : VL.drop j = v :: VL.drop (j + 1) := by
                      have := List.drop_eq_getElem_cons (l := VL) (i := j) (by rw [HNV.out]; exact hlt2)
                      rw [this]
                      congr 1
                      exact (List.getElem?_eq_some_iff.1 hv).2
                    have hvc := vls_cells (fun i j' v' u' h1 h2 => (J8.out.cell hb (fun q => q) _).trans (hc i j' v' u' h1 h2)) hv
                    obtain ⟨t0, t1, t2, t3, t4⟩ := hvc
                    have hgv := goodV_bounds (HG.out v (List.mem_of_getElem? hv))
                    have hrI : I64 v.root := by unfold I64; omega
                    have HR2 := HR'.out
                    rw [hdv] at HR2
                    have HR2' := Lib.hid HR2
                    obtain ⟨id, sz, vr, pin, fr⟩ := v
                    dsimp only at t0 t1 t2 t3 t4 hrI
                    have HT0 := Lib.hid (And.intro hb t0)
                    have HL2 := Lib.hid (HLk.out vr hrI wo (K6.out.same J8.out))
                    have LWv := Lib.hid (LW.out vr)
                    clear hc hv hdv HR2 hgv hrI HR'
                    go_wp2_with fail
                    refine HL2.out.mono ?_
                    rintro e w8 ⟨k2, rfl, hk2, M, hlt3⟩
                    rw [LWv.out] at hlt3
                    have M8 := Lib.hid (show Same wo w8 from M)
                    have P8 := Lib.hid (PR.out.more M)
                    have hwo8 : wo.heap.size ≤ w8.heap.size := M.size
                    clear M HL2 LWv t0 t1 t2 t3 t4
                    cases hwk : walkW (secs l) vr with
                    | none =>
                      rw [hwk] at hlt3
                      obtain ⟨pv2, qv2, st2, hW2⟩ := hlt3
                      have e3 := hW2.blk.at_ (i := 2) _ rfl
                      have hrn : res = none := by rw [← HR2'.out, mapsW, hwk]
                      rw [hrn] at HR
                      dsimp only [Option.map] at HR
                      clear hW2 hrn
                      go_wp2_with fail
                      exact HR.out _ _ ⟨rfl, K4.out.same (K6.out.same (J8.out.same M8.out))⟩
                    | some st2 =>
                      rw [hwk] at hlt3
                      obtain ⟨pv2, qv2, hW2⟩ := hlt3
                      obtain ⟨pa2, pc2, rfl, hPi2⟩ := ins_own hW2.po
                      have e3 := hW2.blk.at_ (i := 2) _ rfl
                      have hsh2 := hW2.short
                      have hkb := hW2.blk.lt
                      have HB8 := Lib.hid hW2.blk
                      have HPi2 := Lib.hid hPi2
                      have HPf2 := Lib.hid (fun (b o : Nat) (q : pa2 = some ⟨b, o, none⟩) => hW2.po.lt b (by rw [q]; rfl))
                      have HPg2 := Lib.hid (walk_pages hwk)
                      have HM2 := Lib.hid (show mapsW (secs l) (VL.drop (j + 1)) (mapIds id st2.1 L') = res by rw [← HR2'.out, mapsW, hwk])
                      obtain ⟨np2, hnp2e⟩ : ∃ z, st2.1.length = z := ⟨_, rfl⟩
                      have HNP2 := Lib.hid hnp2e
                      rw [hnp2e] at hsh2 HB8
                      clear hW2 hPi2 hwk HR2' hnp2e
                      go_wp2_with fail
                      go_loopw [15] (fun vi wr => ∃ (i : Nat) (V'' : Nat → Value) (L'' : List Pd), i ≤ np2 ∧ vi = .int .i64 (i : Int) ∧ Pgd w6.heap.size (fun i => i < w6.heap.size ∨ (wo.heap.size ≤ i ∧ i < w8.heap.size)) wr g V'' L'' ∧ L''.length = np ∧ (∀ x ∈ L'', x.vs.length ≤ j * 511 + i) ∧ mapIds id (st2.1.drop i) L'' = mapIds id st2.1 L' ∧ Mod (fun i => ¬ (i < w6.heap.size ∨ (wo.heap.size ≤ i ∧ i < w8.heap.size))) w8 wr) (fun vi _ => np2 - (intOf vi).toNat)
                      case atStart => exact ⟨0, V', L', by omega, rfl, P8.out, HN'.out, fun x hx => HB'.out x hx, rfl, Mod.refl _ _⟩
                      case round =>
                        obtain ⟨i, V'', L'', hi2, rfl, hp, hn', hb', hr', hM⟩ := hrel
                        have PQ := Lib.hid hp
                        have HN2 := Lib.hid hn'
                        have HB2 := Lib.hid hb'
                        have HR2 := Lib.hid hr'
                        have MQ := Lib.hid hM
                        have hw8r : w8.heap.size ≤ wr.heap.size := hM.size
                        have hgr := hp.lt
                        clear hp hn' hb' hr' hM
                        have kc := (HB8.out.mod MQ.out (fun r => r (.inr ⟨hk2, hkb⟩))).at_ (i := 0) _ rfl
                        by_cases hli : i < np2
                        · obtain ⟨pb, po, rfl, hpb, hpc⟩ := HPi2.out (by rw [HNP2.out]; omega)
                          have hpw := (HPf2.out pb po rfl).1
                          obtain ⟨p, hpp⟩ : ∃ x, st2.1[i]? = some x := ⟨_, List.getElem?_eq_getElem (by rw [HNP2.out]; exact hli)⟩
                          have hdp : st2.1.drop i = p :: st2.1.drop (i + 1) := by
                            have := List.drop_eq_getElem_cons (l := st2.1) (i := i) (by rw [HNP2.out]; exact hli)
                            rw [this]
                            congr 1
                            exact (List.getElem?_eq_some_iff.1 hpp).2
                          have e0 := (MQ.out.cell hpb (fun r => r (.inr ⟨hpw, hpb⟩)) _).trans (hpc i p hpp)
                          have hpr := (HPg2.out p (List.mem_of_getElem? hpp)).1
                          rw [HNpS.out] at hpr
                          obtain ⟨q, rfl⟩ : ∃ q : Nat, p = (q : Int) := ⟨p.toNat, by omega⟩
                          have hq1 : 1 ≤ q ∧ q < np := by omega
                          obtain ⟨x, hx⟩ : ∃ x, L''[q]? = some x := ⟨_, List.getElem?_eq_getElem (by rw [HN2.out]; omega)⟩
                          have hxl := HB2.out x (List.mem_of_getElem? hx)
                          have tid := (MQ.out.cell (b := b) (by have := HT0.out.1; omega) (fun r => r (.inl HT0.out.1)) _).trans ((M8.out.cell (b := b) (by have := HT0.out.1; omega) (fun r => r) _).trans HT0.out.2)
                          have c3 := PQ.out.c3 q x hx
                          have c0 := PQ.out.c0 q x hx
                          have hx1 := PQ.out.c1 q x hx
                          have hx2 := PQ.out.c2 q x hx
                          have hqL : q < L''.length := by rw [HN2.out]; omega
                          obtain ⟨va3, vc3, hva, -⟩ := ins_own (PQ.out.own q x hx)
                          have OX := Lib.hid (PQ.out.own q x hx)
                          have hvg : (V'' q).ownBlock ≠ some g := fun e => (PQ.out.vf q g hqL e).1 rfl
                          obtain ⟨nx, hnx⟩ : ∃ z, x.vs.length = z := ⟨_, rfl⟩
                          have HNX := Lib.hid hnx
                          rw [hnx] at hxl hva OX
                          have HVV := Lib.hid hva
                          rw [hva] at c3 hvg OX
                          have HX := Lib.hid hx
                          have HR3 := Lib.hid (show mapIds id (st2.1.drop (i + 1)) (L''.set q (mapP id x)) = mapIds id st2.1 L' by
                            rw [← HR2.out, hdp, mapIds, Int.toNat_natCast, hx])
                          have HB3 := Lib.hid (show ∀ y ∈ L''.set q (mapP id x), y.vs.length ≤ j * 511 + (i + 1) from fun y hy => by
                            rcases List.mem_or_eq_of_mem_set hy with r | r
                            · have := HB2.out y r; omega
                            · subst r
                              unfold mapP
                              dsimp only
                              rw [List.length_append, hnx]
                              simp only [List.length_cons, List.length_nil]
                              omega)
                          obtain ⟨i3, hi3, hz30, hz31, hz32⟩ := info_parts info3
                          have I3 := Lib.hid hi3
                          have Z30 := Lib.hid hz30
                          have Z31 := Lib.hid hz31
                          have Z32 := Lib.hid hz32
                          have hbr : b < wr.heap.size := by have := HT0.out.1; omega
                          have hj7 : j < 7665 := by omega
                          have hjv : (j : Int) < (nv : Int) := by omega
                          have hj0 : (0 : Int) ≤ (j : Int) := by omega
                          clear hpc hpp hdp hpr hx HB2 HR2 hva hnx hi3 hz30 hz31 hz32
                          go_upto_region 26 with fail
                          go_cut [16] (fun v16 wx => v16 = .pointer (some ⟨g, q * 4, none⟩) ∧ ∃ (w1 : World) (gg cap : Nat), wx = w1.setCell ⟨g, q * 4 + 3, none⟩ (.slice (some ⟨gg, 0, none⟩) (nx + 1) cap) ∧ Mod (fun b => (Value.slice va3 nx vc3).ownBlock = some b) wr w1 ∧ w1.ownsRow w6.heap.size 3 1 (.slice (some ⟨gg, 0, none⟩) (nx + 1) cap) (nx + 1) ((x.vs.map fun x => .int .i64 x) ++ [.int .i64 id]) ∧ ((Value.slice va3 nx vc3).ownBlock = some gg ∨ wr.heap.size ≤ gg))
                          case first =>
                            refine wp_region_held_drew (S := fun w' => True) (by kernel_rfl) (by (try dsimp only); all_goals trivial) (fun hHeld => ?_)
                            refine wpAnyH_take (i := 0) (v := ?_) rfl (by kernel_rfl) (by kernel_rfl) (by kernel_rfl) (fun _ _ _ h => h) (Or.inl ⟨by rfl, ?_⟩) (by assumption) ?_
                            rotate_left
                            · intro w hSw
                              try dsimp only at hSw
                              go_simp
                              try with_reducible rfl
                            try simp only [List.getElem_toArray, List.getElem_cons_succ, List.getElem_cons_zero, Act.put, List.setIfInBounds_toArray, List.set_cons_zero, List.set_cons_succ]
                            refine wpAnyH_take (i := 1) (v := ?_) rfl (by kernel_rfl) (by kernel_rfl) (by kernel_rfl) (fun _ _ _ h => h) (Or.inl ⟨by rfl, ?_⟩) (by assumption) ?_
                            rotate_left
                            · intro w hSw
                              try dsimp only at hSw
                              go_simp
                              try with_reducible rfl
                            try simp only [List.getElem_toArray, List.getElem_cons_succ, List.getElem_cons_zero, Act.put, List.setIfInBounds_toArray, List.set_cons_zero, List.set_cons_succ]
                            refine wpAnyH_take (i := 2) (v := ?_) rfl (by kernel_rfl) (by kernel_rfl) (by kernel_rfl) (fun _ _ _ h => h) (Or.inl ⟨by rfl, ?_⟩) (by assumption) ?_
                            rotate_left
                            · intro w hSw
                              try dsimp only at hSw
                              go_simp
                              try with_reducible rfl
                            try simp only [List.getElem_toArray, List.getElem_cons_succ, List.getElem_cons_zero, Act.put, List.setIfInBounds_toArray, List.set_cons_zero, List.set_cons_succ]
                            refine wpAnyH_take (i := 3) (v := ?_) rfl (by kernel_rfl) (by kernel_rfl) (by kernel_rfl) (fun _ _ _ h => h) (Or.inl ⟨by rfl, ?_⟩) (by assumption) ?_
                            rotate_left
                            · intro w hSw
                              try dsimp only at hSw
                              go_simp
                              try with_reducible rfl
                            try simp only [List.getElem_toArray, List.getElem_cons_succ, List.getElem_cons_zero, Act.put, List.setIfInBounds_toArray, List.set_cons_zero, List.set_cons_succ]
                            refine wpAnyH_take (i := 5) (v := ?_) rfl (by kernel_rfl) (by kernel_rfl) (by kernel_rfl) (fun _ _ _ h => h) (Or.inl ⟨by rfl, ?_⟩) (by assumption) ?_
                            rotate_left
                            · intro w hSw
                              try dsimp only at hSw
                              go_simp
                              try with_reducible rfl
                            try simp only [List.getElem_toArray, List.getElem_cons_succ, List.getElem_cons_zero, Act.put, List.setIfInBounds_toArray, List.set_cons_zero, List.set_cons_succ]
                            refine wpAnyH_take (i := 6) (v := ?_) rfl (by kernel_rfl) (by kernel_rfl) (by kernel_rfl) (fun _ _ _ h => h) (Or.inl ⟨by rfl, ?_⟩) (by assumption) ?_
                            rotate_left
                            · intro w hSw
                              try dsimp only at hSw
                              go_simp
                              try with_reducible rfl
                            try simp only [List.getElem_toArray, List.getElem_cons_succ, List.getElem_cons_zero, Act.put, List.setIfInBounds_toArray, List.set_cons_zero, List.set_cons_succ]
                            refine wpAnyH_take (i := 7) (v := ?_) rfl (by kernel_rfl) (by kernel_rfl) (by kernel_rfl) (fun _ _ _ h => h) (Or.inl ⟨by rfl, ?_⟩) (by assumption) ?_
                            rotate_left
                            · intro w hSw
                              try dsimp only at hSw
                              go_simp
                              try with_reducible rfl
                            try simp only [List.getElem_toArray, List.getElem_cons_succ, List.getElem_cons_zero, Act.put, List.setIfInBounds_toArray, List.set_cons_zero, List.set_cons_succ]
                            refine wpAnyH_take (i := 8) (v := ?_) rfl (by kernel_rfl) (by kernel_rfl) (by kernel_rfl) (fun _ _ _ h => h) (Or.inl ⟨by rfl, ?_⟩) (by assumption) ?_
                            rotate_left
                            · intro w hSw
                              try dsimp only at hSw
                              go_simp
                              try with_reducible rfl
                            try simp only [List.getElem_toArray, List.getElem_cons_succ, List.getElem_cons_zero, Act.put, List.setIfInBounds_toArray, List.set_cons_zero, List.set_cons_succ]
                            refine wpAnyH_ready (rs := [4, 9]) (by kernel_rfl) (by simp) ?_
                            refine AllReadyH.cons rfl (fun Kc hKc => ?_) (AllReadyH.cons rfl (fun Kc hKc => ?_) (AllReadyH.nil))
                            · go_simp
                              refine hKc.out _ _ (by (try dsimp only); all_goals trivial) (fun hHeld => ?_)
                              clear hKc Kc
                              try simp only [List.getElem_toArray, List.getElem_cons_succ, List.getElem_cons_zero, Act.put, List.setIfInBounds_toArray, List.set_cons_zero, List.set_cons_succ]
                              refine wpAnyH_ready (rs := [9]) (by kernel_rfl) (by simp) ?_
                              refine AllReadyH.cons rfl (fun Kc hKc => ?_) AllReadyH.nil
                              go_simp
                              refine hKc.out _ _ (by (try dsimp only); all_goals trivial) (fun hHeld => ?_)
                              clear hKc Kc
                              try simp only [List.getElem_toArray, List.getElem_cons_succ, List.getElem_cons_zero, Act.put, List.setIfInBounds_toArray, List.set_cons_zero, List.set_cons_succ]
                              refine wpAnyH_ready (rs := [10]) (by kernel_rfl) (by simp) ?_
                              refine AllReadyH.cons rfl (fun Kc hKc => ?_) AllReadyH.nil
                              go_simp
                              refine hKc.out _ _ (by (try dsimp only); all_goals trivial) (fun hHeld => ?_)
                              clear hKc Kc
                              try simp only [List.getElem_toArray, List.getElem_cons_succ, List.getElem_cons_zero, Act.put, List.setIfInBounds_toArray, List.set_cons_zero, List.set_cons_succ]
                              refine wpAnyH_ready (rs := [11]) (by kernel_rfl) (by simp) ?_
                              refine AllReadyH.cons rfl (fun Kc hKc => ?_) AllReadyH.nil
                              refine step_append_lies _ rfl (.tmp 107) (.tmp 113) 32 rfl w6.heap.size 3 i3 (.int .i64 0) 1 8 Tryz.underlying32 I3.out Z30.out Z31.out Z32.out rfl (by decide) (.slice va3 nx vc3) nx _ (by simp [Act.eval, Act.put]) (own_drew (OX.out.alloc (.cells #[.int .i64 id] 3))) ⟨wr.heap.size, 0, none⟩ 1 1 [.int .i64 id] (by simp [Act.eval, Act.put]) rfl (by have := one_i64 wr id 3; simpa using this) (i64_cell id) (by decide) (by unfold maxLen; omega) (by omega) (by simp; omega) (wr.heap.size + 1) (by simp) ?_
                              intro gg cap w1 hown1 hgrow hgb hglt1
                              have MX := Lib.hid (show Mod (fun b => (Value.slice va3 nx vc3).ownBlock = some b) wr w1 from (((Mod.refl (fun b => (Value.slice va3 nx vc3).ownBlock = some b) wr).alloc (.cells #[.int .i64 id] 3)).drew).grown hgrow (fun k hk _ => hk))
                              have OO := Lib.hid hown1
                              have GB := Lib.hid (show (Value.slice va3 nx vc3).ownBlock = some gg ∨ wr.heap.size ≤ gg from hgb.imp (fun q => q) (fun q => by rw [q]; omega))
                              have q3 := (MX.out.cell hgr hvg _).trans c3
                              have z3 := (MX.out.frozen hgr hvg (q * 4 + 3)).trans (PQ.out.free _)
                              clear hown1 hgrow hgb hglt1
                              refine hKc.out _ _ (by (try dsimp only); all_goals trivial) (fun hHeld => ?_)
                              clear hKc Kc
                              try simp only [List.getElem_toArray, List.getElem_cons_succ, List.getElem_cons_zero, Act.put, List.setIfInBounds_toArray, List.set_cons_zero, List.set_cons_succ]
                              refine wpAnyH_take (i := 12) (v := ?_) rfl (by kernel_rfl) (by kernel_rfl) (by kernel_rfl) (fun _ _ _ h => h) (Or.inl ⟨by rfl, ?_⟩) (by assumption) ?_
                              rotate_left
                              · intro w hSw
                                try dsimp only at hSw
                                go_simp
                                try with_reducible rfl
                              try simp only [List.getElem_toArray, List.getElem_cons_succ, List.getElem_cons_zero, Act.put, List.setIfInBounds_toArray, List.set_cons_zero, List.set_cons_succ]
                              refine wpAnyH_take (i := 13) (v := ?_) rfl (by kernel_rfl) (by kernel_rfl) (by kernel_rfl) (fun _ _ _ h => h) (Or.inl ⟨by rfl, ?_⟩) (by assumption) ?_
                              rotate_left
                              · intro w hSw
                                try dsimp only at hSw
                                go_simp
                                try with_reducible rfl
                              try simp only [List.getElem_toArray, List.getElem_cons_succ, List.getElem_cons_zero, Act.put, List.setIfInBounds_toArray, List.set_cons_zero, List.set_cons_succ]
                              refine wpAnyH_ready (rs := [14]) (by kernel_rfl) (by simp) ?_
                              refine AllReadyH.cons rfl (fun Kc hKc => ?_) AllReadyH.nil
                              go_simp
                              refine hKc.out _ _ (by (try dsimp only); all_goals trivial) (fun hHeld => ?_)
                              clear hKc Kc
                              try simp only [List.getElem_toArray, List.getElem_cons_succ, List.getElem_cons_zero, Act.put, List.setIfInBounds_toArray, List.set_cons_zero, List.set_cons_succ]
                              refine wpAnyH_done (by kernel_rfl) ?_ _
                              go_wp2_with fail
                              go_meet
                              case rel => exact ⟨rfl, w1, gg, cap, rfl, MX.out, OO.out, GB.out⟩
                            · go_simp
                              refine hKc.out _ _ (by (try dsimp only); all_goals trivial) (fun hHeld => ?_)
                              clear hKc Kc
                              try simp only [List.getElem_toArray, List.getElem_cons_succ, List.getElem_cons_zero, Act.put, List.setIfInBounds_toArray, List.set_cons_zero, List.set_cons_succ]
                              refine wpAnyH_ready (rs := [4, 10]) (by kernel_rfl) (by simp) ?_
                              refine AllReadyH.cons rfl (fun Kc hKc => ?_) (AllReadyH.cons rfl (fun Kc hKc => ?_) (AllReadyH.nil))
                              · go_simp
                                refine hKc.out _ _ (by (try dsimp only); all_goals trivial) (fun hHeld => ?_)
                                clear hKc Kc
                                try simp only [List.getElem_toArray, List.getElem_cons_succ, List.getElem_cons_zero, Act.put, List.setIfInBounds_toArray, List.set_cons_zero, List.set_cons_succ]
                                refine wpAnyH_ready (rs := [10]) (by kernel_rfl) (by simp) ?_
                                refine AllReadyH.cons rfl (fun Kc hKc => ?_) AllReadyH.nil
                                go_simp
                                refine hKc.out _ _ (by (try dsimp only); all_goals trivial) (fun hHeld => ?_)
                                clear hKc Kc
                                try simp only [List.getElem_toArray, List.getElem_cons_succ, List.getElem_cons_zero, Act.put, List.setIfInBounds_toArray, List.set_cons_zero, List.set_cons_succ]
                                refine wpAnyH_ready (rs := [11]) (by kernel_rfl) (by simp) ?_
                                refine AllReadyH.cons rfl (fun Kc hKc => ?_) AllReadyH.nil
                                refine step_append_lies _ rfl (.tmp 107) (.tmp 113) 32 rfl w6.heap.size 3 i3 (.int .i64 0) 1 8 Tryz.underlying32 I3.out Z30.out Z31.out Z32.out rfl (by decide) (.slice va3 nx vc3) nx _ (by simp [Act.eval, Act.put]) (own_drew (OX.out.alloc (.cells #[.int .i64 id] 3))) ⟨wr.heap.size, 0, none⟩ 1 1 [.int .i64 id] (by simp [Act.eval, Act.put]) rfl (by have := one_i64 wr id 3; simpa using this) (i64_cell id) (by decide) (by unfold maxLen; omega) (by omega) (by simp; omega) (wr.heap.size + 1) (by simp) ?_
                                intro gg cap w1 hown1 hgrow hgb hglt1
                                have MX := Lib.hid (show Mod (fun b => (Value.slice va3 nx vc3).ownBlock = some b) wr w1 from (((Mod.refl (fun b => (Value.slice va3 nx vc3).ownBlock = some b) wr).alloc (.cells #[.int .i64 id] 3)).drew).grown hgrow (fun k hk _ => hk))
                                have OO := Lib.hid hown1
                                have GB := Lib.hid (show (Value.slice va3 nx vc3).ownBlock = some gg ∨ wr.heap.size ≤ gg from hgb.imp (fun q => q) (fun q => by rw [q]; omega))
                                have q3 := (MX.out.cell hgr hvg _).trans c3
                                have z3 := (MX.out.frozen hgr hvg (q * 4 + 3)).trans (PQ.out.free _)
                                clear hown1 hgrow hgb hglt1
                                refine hKc.out _ _ (by (try dsimp only); all_goals trivial) (fun hHeld => ?_)
                                clear hKc Kc
                                try simp only [List.getElem_toArray, List.getElem_cons_succ, List.getElem_cons_zero, Act.put, List.setIfInBounds_toArray, List.set_cons_zero, List.set_cons_succ]
                                refine wpAnyH_take (i := 12) (v := ?_) rfl (by kernel_rfl) (by kernel_rfl) (by kernel_rfl) (fun _ _ _ h => h) (Or.inl ⟨by rfl, ?_⟩) (by assumption) ?_
                                rotate_left
                                · intro w hSw
                                  try dsimp only at hSw
                                  go_simp
                                  try with_reducible rfl
                                try simp only [List.getElem_toArray, List.getElem_cons_succ, List.getElem_cons_zero, Act.put, List.setIfInBounds_toArray, List.set_cons_zero, List.set_cons_succ]
                                refine wpAnyH_take (i := 13) (v := ?_) rfl (by kernel_rfl) (by kernel_rfl) (by kernel_rfl) (fun _ _ _ h => h) (Or.inl ⟨by rfl, ?_⟩) (by assumption) ?_
                                rotate_left
                                · intro w hSw
                                  try dsimp only at hSw
                                  go_simp
                                  try with_reducible rfl
                                try simp only [List.getElem_toArray, List.getElem_cons_succ, List.getElem_cons_zero, Act.put, List.setIfInBounds_toArray, List.set_cons_zero, List.set_cons_succ]
                                refine wpAnyH_ready (rs := [14]) (by kernel_rfl) (by simp) ?_
                                refine AllReadyH.cons rfl (fun Kc hKc => ?_) AllReadyH.nil
                                go_simp
                                refine hKc.out _ _ (by (try dsimp only); all_goals trivial) (fun hHeld => ?_)
                                clear hKc Kc
                                try simp only [List.getElem_toArray, List.getElem_cons_succ, List.getElem_cons_zero, Act.put, List.setIfInBounds_toArray, List.set_cons_zero, List.set_cons_succ]
                                refine wpAnyH_done (by kernel_rfl) ?_ _
                                go_wp2_with fail
                                go_meet
                                case rel => exact ⟨rfl, w1, gg, cap, rfl, MX.out, OO.out, GB.out⟩
                              · go_simp
                                refine hKc.out _ _ (by (try dsimp only); all_goals trivial) (fun hHeld => ?_)
                                clear hKc Kc
                                try simp only [List.getElem_toArray, List.getElem_cons_succ, List.getElem_cons_zero, Act.put, List.setIfInBounds_toArray, List.set_cons_zero, List.set_cons_succ]
                                refine wpAnyH_ready (rs := [4]) (by kernel_rfl) (by simp) ?_
                                refine AllReadyH.cons rfl (fun Kc hKc => ?_) AllReadyH.nil
                                go_simp
                                refine hKc.out _ _ (by (try dsimp only); all_goals trivial) (fun hHeld => ?_)
                                clear hKc Kc
                                try simp only [List.getElem_toArray, List.getElem_cons_succ, List.getElem_cons_zero, Act.put, List.setIfInBounds_toArray, List.set_cons_zero, List.set_cons_succ]
                                refine wpAnyH_ready (rs := [11]) (by kernel_rfl) (by simp) ?_
                                refine AllReadyH.cons rfl (fun Kc hKc => ?_) AllReadyH.nil
                                refine step_append_lies _ rfl (.tmp 107) (.tmp 113) 32 rfl w6.heap.size 3 i3 (.int .i64 0) 1 8 Tryz.underlying32 I3.out Z30.out Z31.out Z32.out rfl (by decide) (.slice va3 nx vc3) nx _ (by simp [Act.eval, Act.put]) (own_drew (OX.out.alloc (.cells #[.int .i64 id] 3))) ⟨wr.heap.size, 0, none⟩ 1 1 [.int .i64 id] (by simp [Act.eval, Act.put]) rfl (by have := one_i64 wr id 3; simpa using this) (i64_cell id) (by decide) (by unfold maxLen; omega) (by omega) (by simp; omega) (wr.heap.size + 1) (by simp) ?_
                                intro gg cap w1 hown1 hgrow hgb hglt1
                                have MX := Lib.hid (show Mod (fun b => (Value.slice va3 nx vc3).ownBlock = some b) wr w1 from (((Mod.refl (fun b => (Value.slice va3 nx vc3).ownBlock = some b) wr).alloc (.cells #[.int .i64 id] 3)).drew).grown hgrow (fun k hk _ => hk))
                                have OO := Lib.hid hown1
                                have GB := Lib.hid (show (Value.slice va3 nx vc3).ownBlock = some gg ∨ wr.heap.size ≤ gg from hgb.imp (fun q => q) (fun q => by rw [q]; omega))
                                have q3 := (MX.out.cell hgr hvg _).trans c3
                                have z3 := (MX.out.frozen hgr hvg (q * 4 + 3)).trans (PQ.out.free _)
                                clear hown1 hgrow hgb hglt1
                                refine hKc.out _ _ (by (try dsimp only); all_goals trivial) (fun hHeld => ?_)
                                clear hKc Kc
                                try simp only [List.getElem_toArray, List.getElem_cons_succ, List.getElem_cons_zero, Act.put, List.setIfInBounds_toArray, List.set_cons_zero, List.set_cons_succ]
                                refine wpAnyH_take (i := 12) (v := ?_) rfl (by kernel_rfl) (by kernel_rfl) (by kernel_rfl) (fun _ _ _ h => h) (Or.inl ⟨by rfl, ?_⟩) (by assumption) ?_
                                rotate_left
                                · intro w hSw
                                  try dsimp only at hSw
                                  go_simp
                                  try with_reducible rfl
                                try simp only [List.getElem_toArray, List.getElem_cons_succ, List.getElem_cons_zero, Act.put, List.setIfInBounds_toArray, List.set_cons_zero, List.set_cons_succ]
                                refine wpAnyH_take (i := 13) (v := ?_) rfl (by kernel_rfl) (by kernel_rfl) (by kernel_rfl) (fun _ _ _ h => h) (Or.inl ⟨by rfl, ?_⟩) (by assumption) ?_
                                rotate_left
                                · intro w hSw
                                  try dsimp only at hSw
                                  go_simp
                                  try with_reducible rfl
                                try simp only [List.getElem_toArray, List.getElem_cons_succ, List.getElem_cons_zero, Act.put, List.setIfInBounds_toArray, List.set_cons_zero, List.set_cons_succ]
                                refine wpAnyH_ready (rs := [14]) (by kernel_rfl) (by simp) ?_
                                refine AllReadyH.cons rfl (fun Kc hKc => ?_) AllReadyH.nil
                                go_simp
                                refine hKc.out _ _ (by (try dsimp only); all_goals trivial) (fun hHeld => ?_)
                                clear hKc Kc
                                try simp only [List.getElem_toArray, List.getElem_cons_succ, List.getElem_cons_zero, Act.put, List.setIfInBounds_toArray, List.set_cons_zero, List.set_cons_succ]
                                refine wpAnyH_done (by kernel_rfl) ?_ _
                                go_wp2_with fail
                                go_meet
                                case rel => exact ⟨rfl, w1, gg, cap, rfl, MX.out, OO.out, GB.out⟩
                          case rest =>
                            obtain ⟨rfl, w1, gg, cap, rfl, hMX, hOO, hGB⟩ := hcut
                            have q0 := (hMX.cell hgr hvg _).trans c0
                            have q1 := (hMX.cell hgr hvg _).trans hx1
                            have q2 := (hMX.cell hgr hvg _).trans hx2
                            have q3 := (hMX.cell hgr hvg _).trans c3
                            have fz : ∀ t, w1.frozen? ⟨g, t, none⟩ = false := fun t => (hMX.frozen hgr hvg t).trans (PQ.out.free t)
                            obtain ⟨a0, a1, a2, a3, af, am⟩ := vols_set q0 q1 q2 q3 (.slice (some ⟨gg, 0, none⟩) (nx + 1) cap)
                            obtain ⟨b0, b1, b2, b3, bf, bm⟩ := kind_set a0 a1 a2 a3 (.string ⟨#[77]⟩)
                            have fz1 : (w1.setCell ⟨g, q * 4 + 3, none⟩ (.slice (some ⟨gg, 0, none⟩) (nx + 1) cap)).frozen? ⟨g, q * 4, none⟩ = false := by rw [frozen_setCell]; exact fz _
                            have fz2 : ((w1.setCell ⟨g, q * 4 + 3, none⟩ (.slice (some ⟨gg, 0, none⟩) (nx + 1) cap)).setCell ⟨g, q * 4, none⟩ (.string ⟨#[77]⟩)).frozen? ⟨g, q * 4, none⟩ = false := by rw [frozen_setCell, frozen_setCell]; exact fz _
                            by_cases h2n : 2 ≤ nx + 1
                            · obtain ⟨e0', e1', e2', e3', ef, em⟩ := kind_set b0 b1 b2 b3 (.string ⟨#[83]⟩)
                              have hMF := map_find (kk := 83) PQ.out HX.out HVV.out hMX HNX.out hOO hGB ((am.trans bm).trans em) (by rw [HNX.out, if_pos h2n]) (fun t ht => (ef t (by omega)).trans ((bf t (by omega)).trans (af t (by omega)))) e0' e1' e2' e3' (fun t => by rw [frozen_setCell, frozen_setCell, frozen_setCell])
                              have MF := Lib.hid hMF
                              have g2 : decide ((1 : Int) < ((nx + 1 : Nat) : Int)) = true := decide_eq_true (by omega)
                              have g2' : decide (1 < nx + 1) = true := decide_eq_true (by omega)
                              have g3 : decide ((1 : Int) < (nx : Int) + 1) = true := decide_eq_true (by omega)
                              have g3' : (1 : Int) < (nx : Int) + 1 := by omega
                              have g3'' : 1 < nx + 1 := by omega
                              have g2'' : 0 < nx := by omega
                              clear hMF hMX hOO hGB q0 q1 q2 q3 fz a1 a2 af am b1 b2 bf bm e0' e1' e2' e3' ef em
                              go_wp2_with fail
                              go_roundw
                              obtain ⟨⟨V3, hV3⟩, hM3⟩ := MF.out
                              case rel =>
                                exact ⟨i + 1, V3, _, by omega, by go_num, hV3, by rw [List.length_set]; exact HN2.out, HB3.out, HR3.out, MQ.out.then_ hM3 (fun _ _ q => q)⟩
                              case measure => simp [intOf]; omega
                            · have hMF := map_find (kk := 77) PQ.out HX.out HVV.out hMX HNX.out hOO hGB (am.trans bm) (by rw [HNX.out, if_neg h2n]) (fun t ht => (bf t (by omega)).trans (af t (by omega))) b0 b1 b2 b3 (fun t => by rw [frozen_setCell, frozen_setCell])
                              have MF := Lib.hid hMF
                              have g2 : decide ((1 : Int) < ((nx + 1 : Nat) : Int)) = false := decide_eq_false (by omega)
                              have g2' : decide (1 < nx + 1) = false := decide_eq_false (by omega)
                              have g3 : decide ((1 : Int) < (nx : Int) + 1) = false := decide_eq_false (by omega)
                              have g3' : ¬ (1 : Int) < (nx : Int) + 1 := by omega
                              have g3'' : ¬ 1 < nx + 1 := by omega
                              have g3z : ¬ 0 < nx := by omega
                              clear hMF hMX hOO hGB q0 q1 q2 q3 fz a1 a2 af am b1 b2 bf bm
                              go_wp2_with fail
                              go_roundw
                              obtain ⟨⟨V3, hV3⟩, hM3⟩ := MF.out
                              case rel =>
                                exact ⟨i + 1, V3, _, by omega, by go_num, hV3, by rw [List.length_set]; exact HN2.out, HB3.out, HR3.out, MQ.out.then_ hM3 (fun _ _ q => q)⟩
                              case measure => simp [intOf]; omega
                        · obtain rfl : i = np2 := by omega
                          have hfin := HR2.out
                          rw [List.drop_of_length_le (by rw [HNP2.out]; omega), mapIds] at hfin
                          subst hfin
                          have PX := Lib.hid (PQ.out.less (F' := fun i => i < w6.heap.size) (fun i q => .inl q))
                          have MX2 := Lib.hid ((J8.out.same M8.out).then_ MQ.out (fun i hi q => q (.inl hi)) : Same w6 wr)
                          have BX := Lib.hid (show ∀ x ∈ mapIds id st2.1 L', x.vs.length ≤ (j + 1) * 511 from fun x hx => by have := HB2.out x hx; omega)
                          clear HR2 HB2
                          go_wp2_with fail
                          go_roundw
                          case rel => exact ⟨j + 1, V'', _, by omega, by go_num, PX.out, HN2.out, BX.out, HM2.out, MX2.out⟩
                          case measure => simp [intOf]; omega
                  · obtain rfl : j = nv := by omega
                    have hfin := HR'.out
                    rw [List.drop_of_length_le (by rw [HNV.out]; omega), mapsW] at hfin
                    rw [← hfin] at HR
                    dsimp only [Option.map] at HR
                    obtain ⟨nw, hnw⟩ : ∃ z, st.1.length = z := ⟨_, rfl⟩
                    have HNW := Lib.hid hnw
                    rw [hnw] at HB6 hsh hqn
                    have HPg2 := Lib.hid (show ∀ p ∈ st.1, 1 ≤ p ∧ p < (np : Int) from fun p hp => by have := (HPg.out p hp).1; rw [HNpS.out] at this; exact this)
                    have HK := Lib.hid (setI_kok2 (S := secs l) st.1 L' (fun p hp => ⟨by have := (HPg.out p hp).1; omega, (HPg.out p hp).2⟩) (mapsW_kok2 VL _ L' (HRes.out.trans hfin.symm) (blank_kok2 (secs l) np)))
                    clear hfin hnw HR' HB'
                    go_wp2_with fail
                    go_loopw [17] (fun vi wr => ∃ (i : Nat) (V'' : Nat → Value) (L'' : List Pd), i ≤ nw ∧ vi = .int .i64 (i : Int) ∧ Pgd w6.heap.size (fun i => i < w6.heap.size) wr g V'' L'' ∧ L''.length = np ∧ setI (st.1.drop i) L'' = setI st.1 L' ∧ Same w6 wr) (fun vi _ => nw - (intOf vi).toNat)
                    case atStart => exact ⟨0, V', L', by omega, rfl, PR.out, HN'.out, rfl, J8.out⟩
                    case round =>
                      obtain ⟨i, V'', L'', hi2, rfl, hp, hn', hr', hM⟩ := hrel
                      have PQ := Lib.hid hp
                      have HN2 := Lib.hid hn'
                      have HR2 := Lib.hid hr'
                      have MQ := Lib.hid hM
                      have hgr := hp.lt
                      have hkw := HB6.out.lt
                      have kc := (HB6.out.mod hM (fun r => r)).at_ (i := 0) _ rfl
                      clear hp hn' hr' hM
                      by_cases hli : i < nw
                      · obtain ⟨pb, po, rfl, hpb, hpc⟩ := HPi6.out (by rw [HNW.out]; omega)
                        obtain ⟨p, hpp⟩ : ∃ x, st.1[i]? = some x := ⟨_, List.getElem?_eq_getElem (by rw [HNW.out]; exact hli)⟩
                        have hdp : st.1.drop i = p :: st.1.drop (i + 1) := by
                          have := List.drop_eq_getElem_cons (l := st.1) (i := i) (by rw [HNW.out]; exact hli)
                          rw [this]
                          congr 1
                          exact (List.getElem?_eq_some_iff.1 hpp).2
                        have e0 := (MQ.out.cell hpb (fun r => r) _).trans (hpc i p hpp)
                        have hpr := HPg2.out p (List.mem_of_getElem? hpp)
                        obtain ⟨q, rfl⟩ : ∃ q : Nat, p = (q : Int) := ⟨p.toNat, by omega⟩
                        have hq1 : 1 ≤ q ∧ q < np := by omega
                        obtain ⟨x, hx⟩ : ∃ x, L''[q]? = some x := ⟨_, List.getElem?_eq_getElem (by rw [HN2.out]; omega)⟩
                        have c0 := PQ.out.c0 q x hx
                        have c0f := PQ.out.free (q * 4)
                        have HR3 := Lib.hid (show setI (st.1.drop (i + 1)) (L''.set q { x with k := 73 }) = setI st.1 L' by
                          rw [← HR2.out, hdp, setI, Int.toNat_natCast, hx])
                        have KP := Lib.hid (kind_putd PQ.out hx 73)
                        have hk73 : kS 73 = .string ⟨#[73]⟩ := rfl
                        rw [hk73] at KP
                        clear hpc hpp hdp hpr hx HR2 hk73
                        go_wp2_with fail
                        go_roundw
                        obtain ⟨⟨V3, hV3⟩, hM3⟩ := KP.out
                        case rel => exact ⟨i + 1, V3, _, by omega, by go_num, hV3, by rw [List.length_set]; exact HN2.out, HR3.out, MQ.out.then_ hM3 (fun _ hi q => q hi)⟩
                        case measure => simp [intOf]; omega
                      · obtain rfl : i = nw := by omega
                        have hfin := HR2.out
                        rw [List.drop_of_length_le (by rw [HNW.out]; omega), setI] at hfin
                        subst hfin
                        obtain ⟨L4, hL4⟩ : ∃ z, setI st.1 L' = z := ⟨_, rfl⟩
                        rw [hL4] at PQ HN2 HK HR
                        obtain ⟨nb, no, rfl, hnb, hnc⟩ := ND4.out (by omega)
                        have HNC := Lib.hid hnc
                        have HNS := Lib.hid (fun i (hi : i + 1 < np) => node_same l hl i (by have := HNpS.out; rw [np_same l hl] at this; omega))
                        clear HR2 hL4 hnc
                        go_wp2_with fail
                        go_loopw [18] (fun vi wr => ∃ (m : Nat) (V5 : Nat → Value) (L5 : List Pd), m + 1 ≤ np ∧ vi = .int .i64 ((m + 1 : Nat) : Int) ∧ Pgd w6.heap.size (fun i => i < w6.heap.size) wr g V5 L5 ∧ L5.length = np ∧ (∀ i, i < m + 1 → L5[i]? = (L4[i]?).map (fillP (secs l) i)) ∧ (∀ i, m + 1 ≤ i → L5[i]? = L4[i]?) ∧ Same w6 wr) (fun vi _ => np - (intOf vi).toNat)
                        case atStart => exact ⟨0, V'', L4, by omega, rfl, PQ.out, HN2.out, fun i hi => by
                          obtain rfl : i = 0 := by omega
                          cases hx : L4[0]? with
                          | none => rfl
                          | some x =>
                            have hk : x.k = 72 := by rcases HK.out 0 x hx with q | q | q <;> omega
                            rw [Option.map_some]; unfold fillP; rw [if_pos (.inl hk)], fun i _ => rfl, MQ.out⟩
                        case round =>
                          obtain ⟨m, V5, L5, hm, rfl, hp, hn', hlo5, hhi5, hM⟩ := hrel
                          have PR5 := Lib.hid hp
                          have HN5 := Lib.hid hn'
                          have HLo := Lib.hid hlo5
                          have HHi := Lib.hid hhi5
                          have MR5 := Lib.hid hM
                          have hgr5 := hp.lt
                          clear hp hn' hlo5 hhi5 hM
                          by_cases hlm : m + 1 < np
                          · obtain ⟨x, hx⟩ : ∃ x, L5[m + 1]? = some x := ⟨_, List.getElem?_eq_getElem (by rw [HN5.out]; exact hlm)⟩
                            have hxL : L4[m + 1]? = some x := by rw [← HHi.out (m + 1) (Nat.le_refl _)]; exact hx
                            have e0 := PR5.out.c0 (m + 1) x hx
                            have hk := HK.out (m + 1) x hxL
                            have HX := Lib.hid hx
                            have HXL := Lib.hid hxL
                            rcases hk with hk | hk | ⟨-, hk, lv, L, hlf⟩
                            · omega
                            · have HLo2 := Lib.hid (show ∀ i, i < m + 1 + 1 → L5[i]? = (L4[i]?).map (fillP (secs l) i) from fun i hi => by
                                by_cases r : i = m + 1
                                · subst r; rw [HX.out, HXL.out]; simp only [Option.map_some]; unfold fillP; rw [if_pos (.inr hk.2)]
                                · exact HLo.out i (by omega))
                              rw [hk.2] at e0
                              have hk46 : kS 46 = .string ⟨#[46]⟩ := rfl
                              rw [hk46] at e0
                              clear hx hxL hk hk46
                              go_wp2_with fail
                              go_roundw
                              case rel => exact ⟨m + 1, V5, L5, by omega, by go_num, PR5.out, HN5.out, HLo2.out, fun i h => HHi.out i (by omega), MR5.out⟩
                              case measure => simp [intOf]; omega
                            · have HF2 := Lib.hid (show fillP (secs l) (m + 1) x = { x with l := lv, p := (L.length : Int) } by unfold fillP; rw [if_neg (by omega), hlf])
                              obtain ⟨nva, nc, hn1, hn2, -⟩ := HNC.out m (by omega)
                              try dsimp only at hn1 hn2
                              rw [show nodeD l (m + 1) = (lv, L) by rw [HNS.out m hlm, hlf]] at hn1 hn2
                              have y0 := ((K6.out.same MR5.out).cell hnb (fun r => r) _).trans hn1
                              have y1 := ((K6.out.same MR5.out).cell hnb (fun r => r) _).trans hn2
                              try dsimp only at y0 y1
                              obtain ⟨nl, hnl⟩ : ∃ z, L.length = z := ⟨_, rfl⟩
                              simp only [hnl] at y1 HF2
                              have q1 := PR5.out.c1 (m + 1) x hx
                              have q2 := PR5.out.c2 (m + 1) x hx
                              have f1 := PR5.out.free ((m + 1) * 4 + 1)
                              have f2 := PR5.out.free ((m + 1) * 4 + 2)
                              have hgn : g ≠ nb := by omega
                              have hgn2 : nb ≠ g := by omega
                              have FS := Lib.hid (fill_setd PR5.out hx lv (nl : Int))
                              have HLo2 := Lib.hid (show ∀ i, i < m + 1 + 1 → (L5.set (m + 1) { x with l := lv, p := (nl : Int) })[i]? = (L4[i]?).map (fillP (secs l) i) from fun i hi => by
                                by_cases r : i = m + 1
                                · subst r
                                  rw [List.getElem?_set_self (by rw [HN5.out]; exact hlm), HXL.out, Option.map_some, HF2.out]
                                · rw [List.getElem?_set_ne (fun e => r e.symm)]; exact HLo.out i (by omega))
                              have HHi2 := Lib.hid (show ∀ i, m + 1 + 1 ≤ i → (L5.set (m + 1) { x with l := lv, p := (nl : Int) })[i]? = L4[i]? from fun i hi => by
                                rw [List.getElem?_set_ne (by omega)]; exact HHi.out i (by omega))
                              clear hx hxL hlf hn1 hn2 hnl HF2 HLo HHi
                              rcases hk with hk | hk | hk
                              all_goals
                                rw [hk] at e0
                                simp only [show kS 73 = .string ⟨#[73]⟩ from rfl, show kS 77 = .string ⟨#[77]⟩ from rfl, show kS 83 = .string ⟨#[83]⟩ from rfl] at e0
                                go_wp2_with fail
                                go_roundw
                                obtain ⟨⟨V3, hV3⟩, hM3⟩ := FS.out
                                case rel => exact ⟨m + 1, V3, _, by omega, by go_num, hV3, by rw [List.length_set]; exact HN5.out, HLo2.out, HHi2.out, MR5.out.then_ hM3 (fun _ hi q => q hi)⟩
                                case measure => simp [intOf]; omega
                          · obtain rfl : m = np - 1 := by omega
                            have hall : L5 = fillAll (secs l) L4 := by
                              apply List.ext_getElem?
                              intro i
                              unfold fillAll
                              rw [List.getElem?_mapIdx]
                              by_cases hi : i < np - 1 + 1
                              · rw [HLo.out i hi]
                              · rw [HHi.out i (by omega), List.getElem?_eq_none (by rw [HN2.out]; omega)]; rfl
                            subst hall
                            go_wp2_with fail
                            exact HR.out _ _ ⟨⟨g, cg, V5, by rw [HN5.out]; rfl, (PR5.out.base (Nat.le_trans K4.out.size hwz)).less (fun i q => Nat.lt_of_lt_of_le q (Nat.le_trans K4.out.size hwz))⟩, K4.out.same (K6.out.same MR5.out)⟩
  · have hno : lookW (secs l) = none := by unfold lookW; rw [open_none l hl (by rw [hll]; exact h2)]
    rw [hno] at HR
    have d1 : decide (((ll / 256 : Nat) : Int) < 2) = true := decide_eq_true (by omega)
    have d1' : decide (ll / 256 < 2) = true := decide_eq_true (by omega)
    have d1z : decide ((ll : Int) / 256 < 2) = true := decide_eq_true (by omega)
    have d1y : ll / 256 < 2 := by omega
    have d1x : (ll : Int) / 256 < 2 := by omega
    clear hll hno
    go_enter Tryz.func8, Tryz.ntmps8
    go_wp2
    exact HR.out _ _ ⟨rfl, Mod.refl _ _⟩
end Go.Proofs.YtjkndfenniongaaGreatDoor


