import Derived.Test.YtjkndfenniongaaGreatDoorAtL
import Derived.Deep.RegionHeld3
set_option linter.unusedSimpArgs false
set_option linter.unusedVariables false
set_option maxRecDepth 100000
/- A device is written: two sectors. -/
namespace Go.Proofs.YtjkndfenniongaaGreatDoor
open Go Go.RowKit Go.Maps
theorem Dev.ne_map {B : Nat} {w : World} {d m lb : Nat} {u : Int} {S : List (List UInt8)} {D : DataW Unit} (h : Dev B w d m lb u S D) : d ≠ lb ∧ m ≠ lb ∧ ∀ g f n, 0 < n → RowV w g n f → g ≠ lb := by
  obtain ⟨es, clock, hb, _⟩ := h.loose
  have key : ∀ x, (∃ v, w.cell? ⟨x, 0, none⟩ = some v) → x ≠ lb := by
    rintro x ⟨v, hv⟩ rfl
    simp [World.cell?, hb] at hv
  obtain ⟨a, c, hd, _⟩ := h.disc
  exact ⟨key d ⟨_, hd.at_ (i := 0) _ rfl⟩, key m ⟨_, h.main.at_ (i := 0) _ rfl⟩, fun g f n hn hr => key g ⟨_, hr.cell 0 hn⟩⟩
/-- The power was used. -/
theorem Dev.used {B : Nat} {w w' : World} {d m lb : Nat} {u u' : Int} {S : List (List UInt8)} {D : DataW Unit} (h : Dev B w d m lb u S D) (hb : Blk w' m (mcells u')) (M : Mod (fun i => i = m) w w') : Dev B w' d m lb u' S D := by
  obtain ⟨n1, n2, n3⟩ := h.ne_map
  refine ⟨h.hd, h.hm, h.hlb, hb, ?_, h.ne, ?_, h.len⟩
  · obtain ⟨a, c, hd, hs⟩ := h.disc
    exact ⟨a, c, hd.mod M (fun q => h.ne q), fun q => by obtain ⟨g, h1, h2, h3, h4, h5⟩ := hs q; exact ⟨g, h1, h2, h3, h4, h5.mod M (fun q => h4 q)⟩⟩
  · have hlt := h.loose.lt
    obtain ⟨es, clock, hb, F, hs, hD⟩ := h.loose
    exact ⟨es, clock, (M.block lb hlt (fun q => n2 q.symm)).trans hb, F, hs, hD⟩
/-- The loose sectors turned. -/
theorem Dev.loosed {B : Nat} {w w' : World} {d m lb : Nat} {u : Int} {S : List (List UInt8)} {D D' : DataW Unit} (h : Dev B w d m lb u S D) (hl : w'.ownsMap Tryz.prog 3 (plainElem Tryz.prog 9) lb 100000 D') (hg : w.grownBy w' (some lb)) : Dev B w' d m lb u S D' := by
  obtain ⟨n1, n2, n3⟩ := h.ne_map
  have M : Mod (fun i => i = lb) w w' := (Mod.refl _ _).grown hg (fun k hk _ => by cases hk; rfl)
  refine ⟨h.hd, h.hm, h.hlb, h.main.mod M (fun q => n2 q), ?_, h.ne, hl, h.len⟩
  obtain ⟨a, c, hd, hs⟩ := h.disc
  exact ⟨a, c, hd.mod M (fun q => n1 q), fun q => by obtain ⟨g, h1, h2, h3, h4, h5⟩ := hs q; exact ⟨g, h1, h2, h3, h4, h5.mod M (fun e => n3 g _ _ q h5 e)⟩⟩
theorem toL2 (l : List UInt8) (h : l ≠ []) : (⟨l.toArray⟩ : ByteArray).toList.isEmpty = false := by
  rw [show (⟨l.toArray⟩ : ByteArray).toList = l by simp]; cases l; exact absurd rfl h; rfl
theorem own_tight {P : Program} {k : TypeId} {R : Value → Option (DataW Unit × List MemPlace)} {w : World} {b n : Nat} {L : List (Lit × DataW Unit)} (h : w.ownsMap P k R b n (.map L)) : w.ownsMap P k R b L.length (.map L) := by
  obtain ⟨es, clock, hb, F, hs, hD⟩ := h
  have e : L = (es.toList.map (WideElems.rg P k R)).foldr DataW.insert [] := by injection hD
  have hl := length_read (P := P) (k := k) (R0 := R) es
  exact ⟨es, clock, hb, F, by rw [e, hl]; exact Nat.le_refl _, hD⟩
def sd (s : List UInt8) : DataW Unit := .lit (.string s)
def D1 (a : List UInt8) : DataW Unit := (DataW.map []).put (.int .i64 0) (sd a)
def D2 (a b : List UInt8) : DataW Unit := (D1 a).put (.int .i64 1) (sd b)
theorem D2_eq (a b : List UInt8) : D2 a b = .map [(.int .i64 0, sd a), (.int .i64 1, sd b)] := by
  rfl
set_option maxHeartbeats 4000000 in
theorem write2_any {B : Nat} {w : World} {d m lb : Nat} {u : Int} (hu : 0 ≤ u ∧ u ≤ 1000000) {S : List (List UInt8)} (h : Dev B w d m lb u S (.map [])) (hS : 2 ≤ S.length) (a b : List UInt8) (ha : a.length = 16) (hb : b.length = 16) :
    Calls Tryz.prog 30 #[bp d, .int .i64 0, strV (a ++ b)] w fun e w' => e = .returned (.int .i64 0) ∧ Dev B w' d m lb (u + 2) S (D2 a b) ∧ Mod (fun i => i = m ∨ i = lb) w w' := by
  refine opq fun R HR => ?_
  have HD := Lib.hid h
  have hBw : B ≤ w.heap.size := Nat.le_trans h.hm (Nat.le_of_lt h.main.lt)
  have HH := Lib.hid (has_any h 0 2 (by omega) (by omega))
  rw [decide_eq_true (by omega)] at HH
  have hx1 : (⟨(a ++ b).toArray⟩ : ByteArray).extract 0 16 = ⟨a.toArray⟩ := (take_bytes ⟨(a ++ b).toArray⟩ 16).trans (by
    rw [show (⟨(a ++ b).toArray⟩ : ByteArray).data.toList = a ++ b from rfl, ← ha, List.take_left])
  have hx2 : (⟨(a ++ b).toArray⟩ : ByteArray).extract 16 (⟨(a ++ b).toArray⟩ : ByteArray).size = ⟨b.toArray⟩ := (drop_bytes ⟨(a ++ b).toArray⟩ 16).trans (by
    rw [show (⟨(a ++ b).toArray⟩ : ByteArray).data.toList = a ++ b from rfl, ← ha, List.drop_left])
  have hls : (⟨(a ++ b).toArray⟩ : ByteArray).size = 32 := by rw [bytes_size, List.length_append]; omega
  have hy1 : (⟨b.toArray⟩ : ByteArray).extract 0 16 = ⟨b.toArray⟩ := (take_bytes ⟨b.toArray⟩ 16).trans (by
    rw [show (⟨b.toArray⟩ : ByteArray).data.toList = b from rfl, List.take_of_length_le (by omega)])
  have hy2 : (⟨b.toArray⟩ : ByteArray).extract 16 (⟨b.toArray⟩ : ByteArray).size = ⟨#[]⟩ := (drop_bytes ⟨b.toArray⟩ 16).trans (by
    rw [show (⟨b.toArray⟩ : ByteArray).data.toList = b from rfl, List.drop_of_length_le (by omega)])
  have hlb2 : (⟨b.toArray⟩ : ByteArray).size = 16 := by rw [bytes_size]; omega
  rw [hls] at hx2
  rw [hlb2] at hy2
  have hvA : plainElem (H := Unit) Tryz.prog 9 (.string ⟨a.toArray⟩) = some (sd a, []) := plainElem_string Tryz.underlying9 (by rw [bytes_size]; unfold maxLen; omega)
  have hvB : plainElem (H := Unit) Tryz.prog 9 (.string ⟨b.toArray⟩) = some (sd b, []) := plainElem_string Tryz.underlying9 (by rw [bytes_size]; unfold maxLen; omega)
  have hn1 : ¬ (⟨(a ++ b).toArray⟩ : ByteArray) = ⟨#[]⟩ := fun e => by rw [e] at hls; cases hls
  have hn2 : ¬ (⟨b.toArray⟩ : ByteArray) = ⟨#[]⟩ := fun e => by rw [e] at hlb2; cases hlb2
  have hm1 := toL2 (a ++ b) (by rintro q; rw [List.append_eq_nil_iff] at q; rw [q.1] at ha; cases ha)
  have hm2 := toL2 b (by rintro rfl; cases hb)
  unfold strV
  generalize (⟨(a ++ b).toArray⟩ : ByteArray) = AB at *
  generalize (⟨b.toArray⟩ : ByteArray) = BB at *
  generalize (⟨a.toArray⟩ : ByteArray) = AA at *
  clear ha hb h
  go_enter Tryz.func30, Tryz.ntmps30
  go_wp2_with fail
  refine HH.out.mono ?_
  rintro e w1 ⟨rfl, rfl⟩
  clear HH
  go_wp2_with fail
  go_loopw [1, 2, 7] (fun v1 v2 _ wr => ∃ k : Nat, ((k = 0 ∧ v1 = .int .i64 0 ∧ v2 = .string AB ∧ Dev B wr d m lb u S (.map [])) ∨ (k = 1 ∧ v1 = .int .i64 1 ∧ v2 = .string BB ∧ Dev B wr d m lb (u + 1) S (D1 a)) ∨ (k = 2 ∧ v1 = .int .i64 2 ∧ v2 = .string ⟨#[]⟩ ∧ Dev B wr d m lb (u + 2) S (D2 a b))) ∧ Mod (fun i => i = m ∨ i = lb) w1 wr) (fun v1 _ _ _ => 2 - (intOf v1).toNat)
  case atStart => exact ⟨0, .inl ⟨rfl, rfl, rfl, HD.out⟩, Mod.refl _ _⟩
  case round =>
    obtain ⟨k, hd3, hbel⟩ := hrel
    have KB := Lib.hid hbel
    clear hbel
    rcases hd3 with ⟨rfl, rfl, rfl, hdv⟩ | ⟨rfl, rfl, rfl, hdv⟩ | ⟨rfl, rfl, rfl, hdv⟩
    all_goals (have KD := Lib.hid hdv; clear hdv)
    · obtain ⟨a0, c0, hbd, _⟩ := KD.out.disc
      have e0 := hbd.at_ (i := 0) _ rfl
      clear hbd
      go_wp2_with fail
      refine (use_any m (u) (by omega) wr KD.out.main).mono ?_
      rintro e w3 ⟨rfl, hbm, M⟩
      have K4 := Lib.hid (KD.out.used hbm M)
      have N4 := Lib.hid (KB.out.then_ M (fun i _ q => .inl q))
      clear hbm M KD KB e0
      obtain ⟨w5, hrun, hown5, hg5⟩ := (World.ownsMap.drew (own_tight (L := []) K4.out.loose)).update law3 Tryz.underlying111 (by unfold maxLen; simp) (keyOf_int_mk Tryz.underlying3 (a := (0 : Int)) (q := .i64) (WalkArith.wf_i64 (by omega))) hvA
      have K5 := Lib.hid (show Dev B w3.drew d m lb (u + 1) S (.map []) from ⟨K4.out.hd, K4.out.hm, K4.out.hlb, K4.out.main.drew, by
        obtain ⟨a0, c0, hbd, hs⟩ := K4.out.disc
        exact ⟨a0, c0, hbd.drew, fun q => by obtain ⟨g, h1, h2, h3, h4, h5⟩ := hs q; exact ⟨g, h1, h2, h3, h4, h5.drew⟩⟩, K4.out.ne, K4.out.loose.drew, K4.out.len⟩)
      have K6 := Lib.hid (K5.out.loosed (hown5.mono (by first | omega | simp)) hg5)
      have N6 := Lib.hid ((N4.out.drew).grown hg5 (fun k hk _ => by cases hk; exact .inr rfl))
      obtain ⟨a0, c0, hbd, _⟩ := K4.out.disc
      have e2 := hbd.at_ (i := 2) _ rfl
      obtain ⟨a1, c1, hbd1, _⟩ := K6.out.disc
      have e3 := hbd1.at_ (i := 2) _ rfl
      clear hown5 hg5 K4 N4 K5 hbd hbd1
      go_wp2_with fail
      refine wp_region_held_drew (S := fun w' => w'.cell? ⟨d, 2, none⟩ = some (.map (some lb))) (by kernel_rfl) (by (try dsimp only); first | exact e2 | assumption) (fun hHeld => ?_)
      refine wpAnyH_take (i := 0) (v := ?_) rfl (by kernel_rfl) (by kernel_rfl) (by kernel_rfl) (fun _ _ _ h => h) (Or.inl ⟨by rfl, ?_⟩) (by assumption) ?_
      rotate_left
      · intro w hSw
        try dsimp only at hSw
        go_simp
        try with_reducible rfl
      try simp only [List.getElem_toArray, List.getElem_cons_succ, List.getElem_cons_zero, Act.put, List.setIfInBounds_toArray, List.set_cons_zero, List.set_cons_succ]
      refine wpAnyH_take (i := 1) (v := ?_) rfl (by kernel_rfl) (by kernel_rfl) (by kernel_rfl) (fun _ _ _ h => h) (Or.inl ⟨by rfl, ?_⟩) (by assumption) ?_
      rotate_left
      · intro w hSw
        try dsimp only at hSw
        go_simp
        try with_reducible rfl
      try simp only [List.getElem_toArray, List.getElem_cons_succ, List.getElem_cons_zero, Act.put, List.setIfInBounds_toArray, List.set_cons_zero, List.set_cons_succ]
      refine wpAnyH_take (i := 2) (v := ?_) rfl (by kernel_rfl) (by kernel_rfl) (by kernel_rfl) (fun _ _ _ h => h) (Or.inl ⟨by rfl, ?_⟩) (by assumption) ?_
      rotate_left
      · intro w hSw
        try dsimp only at hSw
        go_simp
        try with_reducible rfl
      try simp only [List.getElem_toArray, List.getElem_cons_succ, List.getElem_cons_zero, Act.put, List.setIfInBounds_toArray, List.set_cons_zero, List.set_cons_succ]
      refine wpAnyH_take (i := 3) (v := ?_) rfl (by kernel_rfl) (by kernel_rfl) (by kernel_rfl) (fun _ _ _ h => h) (Or.inl ⟨by rfl, ?_⟩) (by assumption) ?_
      rotate_left
      · intro w hSw
        try dsimp only at hSw
        go_simp
        try with_reducible rfl
      try simp only [List.getElem_toArray, List.getElem_cons_succ, List.getElem_cons_zero, Act.put, List.setIfInBounds_toArray, List.set_cons_zero, List.set_cons_succ]
      refine wpAnyH_take (i := 4) (v := ?_) rfl (by kernel_rfl) (by kernel_rfl) (by kernel_rfl) (fun _ _ _ h => h) (Or.inl ⟨by rfl, ?_⟩) (by assumption) ?_
      rotate_left
      · intro w hSw
        try dsimp only at hSw
        go_simp
        try with_reducible rfl
      try simp only [List.getElem_toArray, List.getElem_cons_succ, List.getElem_cons_zero, Act.put, List.setIfInBounds_toArray, List.set_cons_zero, List.set_cons_succ]
      refine wpAnyH_take (i := 5) (v := ?_) rfl (by kernel_rfl) (by kernel_rfl) (by kernel_rfl) (fun _ _ _ h => h) (Or.inl ⟨by rfl, ?_⟩) (by assumption) ?_
      rotate_left
      · intro w hSw
        try dsimp only at hSw
        go_simp
        try with_reducible rfl
      try simp only [List.getElem_toArray, List.getElem_cons_succ, List.getElem_cons_zero, Act.put, List.setIfInBounds_toArray, List.set_cons_zero, List.set_cons_succ]
      refine wpAnyH_take (i := 6) (v := ?_) rfl (by kernel_rfl) (by kernel_rfl) (by kernel_rfl) (fun _ _ _ h => h) (Or.inl ⟨by rfl, ?_⟩) (by assumption) ?_
      rotate_left
      · intro w hSw
        try dsimp only at hSw
        have hxx := hx1
        go_simp
        try with_reducible rfl
      try simp only [List.getElem_toArray, List.getElem_cons_succ, List.getElem_cons_zero, Act.put, List.setIfInBounds_toArray, List.set_cons_zero, List.set_cons_succ]
      refine wpAnyH_ready (rs := [7]) (by kernel_rfl) (by simp) ?_
      refine AllReadyH.cons rfl (fun Kc hKc => ?_) AllReadyH.nil
      go_simp
      refine hKc.out _ _ (by (try dsimp only); exact e3) (fun hHeld => ?_)
      clear hKc Kc
      try simp only [List.getElem_toArray, List.getElem_cons_succ, List.getElem_cons_zero, Act.put, List.setIfInBounds_toArray, List.set_cons_zero, List.set_cons_succ]
      refine wpAnyH_done (by kernel_rfl) ?_ _
      clear hrun e2 e3
      go_wp2_with fail
      go_roundw
      case rel => exact ⟨1, .inr (.inl ⟨rfl, by first | rfl | go_num, by first | rfl | rw [hx2], K6.out⟩), N6.out⟩
      case measure => simp [intOf]
    · obtain ⟨a0, c0, hbd, _⟩ := KD.out.disc
      have e0 := hbd.at_ (i := 0) _ rfl
      clear hbd
      go_wp2_with fail
      refine (use_any m (u + 1) (by omega) wr KD.out.main).mono ?_
      rintro e w3 ⟨rfl, hbm, M⟩
      have K4 := Lib.hid (KD.out.used hbm M)
      have N4 := Lib.hid (KB.out.then_ M (fun i _ q => .inl q))
      clear hbm M KD KB e0
      obtain ⟨w5, hrun, hown5, hg5⟩ := (World.ownsMap.drew (own_tight (L := [(.int .i64 0, sd a)]) K4.out.loose)).update law3 Tryz.underlying111 (by unfold maxLen; simp) (keyOf_int_mk Tryz.underlying3 (a := (1 : Int)) (q := .i64) (WalkArith.wf_i64 (by omega))) hvB
      have K5 := Lib.hid (show Dev B w3.drew d m lb (u + 1 + 1) S (D1 a) from ⟨K4.out.hd, K4.out.hm, K4.out.hlb, K4.out.main.drew, by
        obtain ⟨a0, c0, hbd, hs⟩ := K4.out.disc
        exact ⟨a0, c0, hbd.drew, fun q => by obtain ⟨g, h1, h2, h3, h4, h5⟩ := hs q; exact ⟨g, h1, h2, h3, h4, h5.drew⟩⟩, K4.out.ne, K4.out.loose.drew, K4.out.len⟩)
      have K6 := Lib.hid (K5.out.loosed (hown5.mono (by first | omega | simp)) hg5)
      have N6 := Lib.hid ((N4.out.drew).grown hg5 (fun k hk _ => by cases hk; exact .inr rfl))
      obtain ⟨a0, c0, hbd, _⟩ := K4.out.disc
      have e2 := hbd.at_ (i := 2) _ rfl
      obtain ⟨a1, c1, hbd1, _⟩ := K6.out.disc
      have e3 := hbd1.at_ (i := 2) _ rfl
      clear hown5 hg5 K4 N4 K5 hbd hbd1
      go_wp2_with fail
      refine wp_region_held_drew (S := fun w' => w'.cell? ⟨d, 2, none⟩ = some (.map (some lb))) (by kernel_rfl) (by (try dsimp only); first | exact e2 | assumption) (fun hHeld => ?_)
      refine wpAnyH_take (i := 0) (v := ?_) rfl (by kernel_rfl) (by kernel_rfl) (by kernel_rfl) (fun _ _ _ h => h) (Or.inl ⟨by rfl, ?_⟩) (by assumption) ?_
      rotate_left
      · intro w hSw
        try dsimp only at hSw
        go_simp
        try with_reducible rfl
      try simp only [List.getElem_toArray, List.getElem_cons_succ, List.getElem_cons_zero, Act.put, List.setIfInBounds_toArray, List.set_cons_zero, List.set_cons_succ]
      refine wpAnyH_take (i := 1) (v := ?_) rfl (by kernel_rfl) (by kernel_rfl) (by kernel_rfl) (fun _ _ _ h => h) (Or.inl ⟨by rfl, ?_⟩) (by assumption) ?_
      rotate_left
      · intro w hSw
        try dsimp only at hSw
        go_simp
        try with_reducible rfl
      try simp only [List.getElem_toArray, List.getElem_cons_succ, List.getElem_cons_zero, Act.put, List.setIfInBounds_toArray, List.set_cons_zero, List.set_cons_succ]
      refine wpAnyH_take (i := 2) (v := ?_) rfl (by kernel_rfl) (by kernel_rfl) (by kernel_rfl) (fun _ _ _ h => h) (Or.inl ⟨by rfl, ?_⟩) (by assumption) ?_
      rotate_left
      · intro w hSw
        try dsimp only at hSw
        go_simp
        try with_reducible rfl
      try simp only [List.getElem_toArray, List.getElem_cons_succ, List.getElem_cons_zero, Act.put, List.setIfInBounds_toArray, List.set_cons_zero, List.set_cons_succ]
      refine wpAnyH_take (i := 3) (v := ?_) rfl (by kernel_rfl) (by kernel_rfl) (by kernel_rfl) (fun _ _ _ h => h) (Or.inl ⟨by rfl, ?_⟩) (by assumption) ?_
      rotate_left
      · intro w hSw
        try dsimp only at hSw
        go_simp
        try with_reducible rfl
      try simp only [List.getElem_toArray, List.getElem_cons_succ, List.getElem_cons_zero, Act.put, List.setIfInBounds_toArray, List.set_cons_zero, List.set_cons_succ]
      refine wpAnyH_take (i := 4) (v := ?_) rfl (by kernel_rfl) (by kernel_rfl) (by kernel_rfl) (fun _ _ _ h => h) (Or.inl ⟨by rfl, ?_⟩) (by assumption) ?_
      rotate_left
      · intro w hSw
        try dsimp only at hSw
        go_simp
        try with_reducible rfl
      try simp only [List.getElem_toArray, List.getElem_cons_succ, List.getElem_cons_zero, Act.put, List.setIfInBounds_toArray, List.set_cons_zero, List.set_cons_succ]
      refine wpAnyH_take (i := 5) (v := ?_) rfl (by kernel_rfl) (by kernel_rfl) (by kernel_rfl) (fun _ _ _ h => h) (Or.inl ⟨by rfl, ?_⟩) (by assumption) ?_
      rotate_left
      · intro w hSw
        try dsimp only at hSw
        go_simp
        try with_reducible rfl
      try simp only [List.getElem_toArray, List.getElem_cons_succ, List.getElem_cons_zero, Act.put, List.setIfInBounds_toArray, List.set_cons_zero, List.set_cons_succ]
      refine wpAnyH_take (i := 6) (v := ?_) rfl (by kernel_rfl) (by kernel_rfl) (by kernel_rfl) (fun _ _ _ h => h) (Or.inl ⟨by rfl, ?_⟩) (by assumption) ?_
      rotate_left
      · intro w hSw
        try dsimp only at hSw
        have hxx := hy1
        go_simp
        try with_reducible rfl
      try simp only [List.getElem_toArray, List.getElem_cons_succ, List.getElem_cons_zero, Act.put, List.setIfInBounds_toArray, List.set_cons_zero, List.set_cons_succ]
      refine wpAnyH_ready (rs := [7]) (by kernel_rfl) (by simp) ?_
      refine AllReadyH.cons rfl (fun Kc hKc => ?_) AllReadyH.nil
      go_simp
      refine hKc.out _ _ (by (try dsimp only); exact e3) (fun hHeld => ?_)
      clear hKc Kc
      try simp only [List.getElem_toArray, List.getElem_cons_succ, List.getElem_cons_zero, Act.put, List.setIfInBounds_toArray, List.set_cons_zero, List.set_cons_succ]
      refine wpAnyH_done (by kernel_rfl) ?_ _
      clear hrun e2 e3
      go_wp2_with fail
      go_roundw
      case rel => exact ⟨2, .inr (.inr ⟨rfl, by first | rfl | go_num, by first | rfl | rw [hy2], by rw [show u + 2 = u + 1 + 1 by omega]; exact K6.out⟩), N6.out⟩
      case measure => simp [intOf]
    · go_wp2
      exact HR.out _ _ ⟨rfl, KD.out, KB.out⟩
end Go.Proofs.YtjkndfenniongaaGreatDoor
