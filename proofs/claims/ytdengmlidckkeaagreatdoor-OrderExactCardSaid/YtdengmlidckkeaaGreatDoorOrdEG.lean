import Derived.Test.YtdengmlidckkeaaGreatDoorOrdEF
import Derived.Test.YtdengmlidckkeaaGreatDoorOrdEE
import Derived.Deep.RegionLaw
import Derived.Deep.RegionHeld3
set_option linter.unusedSimpArgs false
set_option linter.unusedVariables false
namespace Go.Proofs.YtdengmlidckkeaaGreatDoor
open Go Go.RowKit
/-- The method 'Word' of an order of each kind. -/
theorem word_meth (k : Nat) (hk : k < 15) : ∃ F, (∀ cs w, Sem.run Tryz.prog (method 304 (kT k) (.agg cs) "Word") w = .ok (F, .agg cs) w) ∧ (∀ cs w, Sem.run Tryz.prog (callFunc F #[.agg cs]) w = .ok (.enter F #[.agg cs]) w) ∧ ∀ cs w, Calls Tryz.prog F #[.agg cs] w fun e w' => e = .returned (.string ⟨(wordL k).toArray⟩) ∧ Same w w' := by
  rcases kinds15 hk with rfl | rfl | rfl | rfl | rfl | rfl | rfl | rfl | rfl | rfl | rfl | rfl | rfl | rfl | rfl
  · exact ⟨151, fun cs w => by kernel_rfl, fun cs w => by kernel_rfl, fun cs w => wordF0 cs w⟩
  · exact ⟨152, fun cs w => by kernel_rfl, fun cs w => by kernel_rfl, fun cs w => wordF1 cs w⟩
  · exact ⟨153, fun cs w => by kernel_rfl, fun cs w => by kernel_rfl, fun cs w => wordF2 cs w⟩
  · exact ⟨154, fun cs w => by kernel_rfl, fun cs w => by kernel_rfl, fun cs w => wordF3 cs w⟩
  · exact ⟨155, fun cs w => by kernel_rfl, fun cs w => by kernel_rfl, fun cs w => wordF4 cs w⟩
  · exact ⟨156, fun cs w => by kernel_rfl, fun cs w => by kernel_rfl, fun cs w => wordF5 cs w⟩
  · exact ⟨157, fun cs w => by kernel_rfl, fun cs w => by kernel_rfl, fun cs w => wordF6 cs w⟩
  · exact ⟨149, fun cs w => by kernel_rfl, fun cs w => by kernel_rfl, fun cs w => wordF7 cs w⟩
  · exact ⟨158, fun cs w => by kernel_rfl, fun cs w => by kernel_rfl, fun cs w => wordF8 cs w⟩
  · exact ⟨150, fun cs w => by kernel_rfl, fun cs w => by kernel_rfl, fun cs w => wordF9 cs w⟩
  · exact ⟨159, fun cs w => by kernel_rfl, fun cs w => by kernel_rfl, fun cs w => wordF10 cs w⟩
  · exact ⟨160, fun cs w => by kernel_rfl, fun cs w => by kernel_rfl, fun cs w => wordF11 cs w⟩
  · exact ⟨161, fun cs w => by kernel_rfl, fun cs w => by kernel_rfl, fun cs w => wordF12 cs w⟩
  · exact ⟨162, fun cs w => by kernel_rfl, fun cs w => by kernel_rfl, fun cs w => wordF13 cs w⟩
  · exact ⟨163, fun cs w => by kernel_rfl, fun cs w => by kernel_rfl, fun cs w => wordF14 cs w⟩
theorem nums_made (z a b c : Int) (s t u : List UInt8) (ha : I64 a) (hb : I64 b) (hc : I64 c) (w : World) : Calls Tryz.prog 8 #[.int .i64 z, .int .i64 a, .int .i64 b, .int .i64 c] w fun e w' => ∃ p q, e = .returned (.slice p (madeO z a b c s t u).ns.length q) ∧ RowAt w' p ((madeO z a b c s t u).ns.map (Value.int .i64)) ∧ Same w w' := by
  refine (numbers_any z a b c w).mono ?_
  rintro e w' ⟨p, q, he, hr, hs⟩
  exact ⟨p, q, by rw [he, (made_form z a b c s t u ha hb hc).nn]; rfl, hr, hs⟩
theorem texts_made (z a b c : Int) (s t u : List UInt8) (ha : I64 a) (hb : I64 b) (hc : I64 c) (w : World) : Calls Tryz.prog 9 #[.int .i64 z, .string ⟨s.toArray⟩, .string ⟨t.toArray⟩, .string ⟨u.toArray⟩] w fun e w' => ∃ p q, e = .returned (.slice p (madeO z a b c s t u).ts.length q) ∧ RowAt w' p ((madeO z a b c s t u).ts.map strV) ∧ Same w w' := by
  refine (texts_any z s t u w).mono ?_
  rintro e w' ⟨p, q, he, hr, hs⟩
  exact ⟨p, q, by rw [he, (made_form z a b c s t u ha hb hc).nd]; rfl, hr, hs⟩
theorem made_small (z a b c : Int) (s t u : List UInt8) (hs : s.length ≤ 1000) (ht : t.length ≤ 1000) (hu : u.length ≤ 1000) : ∀ x ∈ (madeO z a b c s t u).ts, x.length ≤ 1000 := by
  intro x hx
  have := List.mem_of_mem_take hx
  simp at this
  rcases this with rfl | rfl | rfl <;> assumption
theorem reftext_w (o : OW) (hf : o.form) (hsm : ∀ t ∈ o.ts, t.length ≤ 1000) (a b : Option Addr) (c d : Nat) (w : World) (hn : RowAt w a (o.ns.map (Value.int .i64))) (ht : RowAt w b (o.ts.map strV)) :
    Calls Tryz.prog 10 #[.agg #[.int .i64 (1 + (o.k : Int)), .slice a o.ns.length c, .slice b o.ts.length d]] w fun e w' => e = .returned (.tuple #[.string ⟨(refT o).toArray⟩, .bool o.fits]) ∧ Same w w' := by
  have := reftext_any o hf hsm a b c d w hn ht
  rw [Int.add_comm] at this
  exact this
theorem same_self (x : OW) (fx : x.form) (a1 a2 b1 b2 : Option Addr) (c1 c2 d1 d2 : Nat) (w : World) (hn1 : RowAt w a1 (x.ns.map (Value.int .i64))) (hn2 : RowAt w a2 (x.ns.map (Value.int .i64))) (ht1 : RowAt w b1 (x.ts.map strV)) (ht2 : RowAt w b2 (x.ts.map strV)) :
    Calls Tryz.prog 13 #[.agg #[.int .i64 ((x.k : Int) + 1), .slice a1 (x.ns.map (Value.int .i64)).length c1, .slice b1 (x.ts.map strV).length d1], .agg #[.int .i64 (1 + (x.k : Int)), .slice a2 x.ns.length c2, .slice b2 x.ts.length d2]] w fun e w' => e = .returned (.bool true) ∧ Same w w' := by
  have h := same_ord x x fx fx a1 a2 b1 b2 c1 c2 d1 d2 w hn1 hn2 ht1 ht2
  simp only [List.length_map, decide_true] at h ⊢
  rw [Int.add_comm 1]
  exact h
theorem same_selfq (x : OW) (fx : x.form) (a1 a2 b1 b2 : Option Addr) (c1 c2 d1 d2 : Nat) (w : World) (hn1 : RowAt w a1 (x.ns.map (Value.int .i64))) (hn2 : RowAt w a2 (x.ns.map (Value.int .i64))) (ht1 : RowAt w b1 (x.ts.map strV)) (ht2 : RowAt w b2 (x.ts.map strV)) :
    Calls Tryz.prog 13 #[.agg #[.int .i64 ((x.k : Int) + 1), .slice a1 (x.ns.map (Value.int .i64)).length c1, .slice b1 (x.ts.map strV).length d1], .agg #[.int .i64 ((x.k : Int) + 1), .slice a2 x.ns.length c2, .slice b2 x.ts.length d2]] w fun e w' => e = .returned (.bool true) ∧ Same w w' := by
  have h := same_self x fx a1 a2 b1 b2 c1 c2 d1 d2 w hn1 hn2 ht1 ht2
  rwa [Int.add_comm 1] at h
set_option maxRecDepth 10000 in
set_option maxHeartbeats 16000000 in
theorem orderExact_walk (z a b c : Int) (s t line : List UInt8) (ha : I64 a) (hb : I64 b) (hc : I64 c) (w : World) (hL : LibOK w) :
    Calls Tryz.prog 3 #[.int .i64 z, .int .i64 a, .int .i64 b, .int .i64 c, .string ⟨s.toArray⟩, .string ⟨t.toArray⟩, .string ⟨line.toArray⟩] w fun e w' => e = .returned (.bool true) ∧ Same w w' := by
  refine opq fun R HR => ?_
  have HL := Lib.hid hL
  have HA := Lib.hid (fun (w : World) (hL : LibOK w) => awake20_any w hL)
  have hss := bytes_size s
  have hst := bytes_size t
  have hsl := bytes_size line
  clear hL
  by_cases h512 : s.length ≤ 600 ∧ t.length ≤ 600 ∧ line.length ≤ 2048
  · obtain ⟨h1, h2, h3⟩ := h512
    have hki := kin_int z
    have fx := made_form z a b c s t [] ha hb hc
    have HSM := Lib.hid (made_small z a b c s t [] (by omega) (by omega) (by simp))
    have HM1 := Lib.hid (fun w => made_any z a b c s t [] w)
    have HNu := Lib.hid (nums_made z a b c s t [] ha hb hc)
    have HTe := Lib.hid (texts_made z a b c s t [] ha hb hc)
    have hkk : kin z = (madeO z a b c s t []).k := rfl
    rw [hkk] at hki
    generalize madeO z a b c s t [] = x at *
    have HX := Lib.hid fx
    obtain ⟨K, hK⟩ : ∃ K, x.k = K := ⟨_, rfl⟩
    have HRT := Lib.hid (reftext_w x fx HSM.out)
    have hk15 := fx.lt
    rw [hK] at hki HRT hk15
    obtain ⟨F, hF1, hF2, hF3⟩ := word_meth K hk15
    have HW := Lib.hid (fun cs w => hF3 cs w)
    obtain ⟨wl, hwl⟩ : ∃ wl, wordL K = wl := ⟨_, rfl⟩
    have WG1 := Lib.hid (show words16[1 + K]? = some wl by rw [Nat.add_comm, ← hwl]; exact words16_get K hk15)
    rw [hwl] at HW
    have hww : (wl != wl) = false := by simp
    clear hF3 hwl
    have HK := Lib.hid hK
    have HPl := Lib.hid (fun (w : World) (hL : LibOK w) => parse_any line (by omega) w hL)
    have HRp := Lib.hid (fun (w : World) => refparse_any line (by omega) w)
    rw [← parse_ref line] at HRp
    have HPF := Lib.hid (fun q => @parse_form line q)
    clear ha hb hc hkk fx HSM hK
    cases hft : x.fits with
    | true =>
      have HT1 := Lib.hid (fun (w : World) (hL : LibOK w) => text_ok x HX.out hft w hL.tab)
      have HF1 := Lib.hid (form_any x HX.out hft)
      have HSm := Lib.hid (same_self x HX.out)
      have hrt : refT x = textO x := by unfold refT; rw [hft]; rfl
      rw [hrt, hft] at HRT
      have hxs : (textO x != textO x) = false := by simp
      clear hrt hft

      obtain ⟨T, hT⟩ : ∃ T, kT K = T := ⟨_, rfl⟩
      have hTx : kT x.k = T := by rw [HK.out]; exact hT
      rw [hT] at hF1
      obtain ⟨cs, hcs⟩ : ∃ cs, ordC x = cs := ⟨_, rfl⟩
      unfold ordW at HM1 HT1 HF1
      rw [hTx, hcs] at HM1 HT1 HF1
      have hm := hF1 cs
      have hcf := hF2 cs
      clear hT hTx hcs hF1 hF2

      generalize textO x = tx at *
      rw [HK.out] at HSm HF1
      unfold FormV at HF1

      obtain ⟨nl, hnl⟩ : ∃ nl, x.ns.length = nl := ⟨_, rfl⟩
      obtain ⟨tl, htl⟩ : ∃ tl, x.ts.length = tl := ⟨_, rfl⟩
      rw [hnl] at HNu HRT HSm
      rw [htl] at HTe HRT HSm
      clear hnl htl
      generalize x.ns.map (Value.int .i64) = xn at *
      generalize x.ts.map strV = xt at *

      generalize hxl : xn.length = xl at *
      generalize hxtl : xt.length = xtl at *
      clear hxl hxtl
      go_enter Tryz.func3, Tryz.ntmps3
      go_wp2_with fail
      refine (HA.out _ HL.out).mono ?_
      rintro e w1 ⟨rfl, M1⟩
      have K1 := Lib.hid M1
      clear M1 HA
      go_wp2_with fail
      refine (HM1.out _).mono ?_
      rintro e w2 ⟨rfl, rfl⟩
      clear HM1
      go_wp2_with fail
      refine (HNu.out _).mono ?_
      rintro e w3 ⟨p1, q1, rfl, r1, M3⟩
      have K3 := Lib.hid (K1.out.same M3)
      have R1 := Lib.hid r1
      clear M3 K1 HNu r1
      go_wp2_with fail
      refine (HTe.out _).mono ?_
      rintro e w4 ⟨p2, q2, rfl, r2, M4⟩
      have K4 := Lib.hid (K3.out.same M4)
      have R1b := Lib.hid (R1.out.same M4)
      have R2 := Lib.hid r2
      clear M4 K3 HTe r2 R1
      go_wp2_with fail
      have S5 := Lib.hid (K4.out.alloc (.cells #[.int .i64 (1 + (K : Int)), .slice p1 nl q1, .slice p2 tl q2] 32))
      have B5 := Lib.hid (Blk.new w4 #[.int .i64 (1 + (K : Int)), .slice p1 nl q1, .slice p2 tl q2] 32)
      have M5 : Same w4 (w4.alloc (.cells #[.int .i64 (1 + (K : Int)), .slice p1 nl q1, .slice p2 tl q2] 32)) := (Mod.refl _ _).alloc _
      have R1 := Lib.hid (R1b.out.same M5)
      have R2' := Lib.hid (R2.out.same M5)
      clear M5 K4 R1b R2
      generalize w4.alloc _ = w5 at *
      generalize hZ : w4.heap.size = Z at *
      refine (HRT.out _ _ _ _ _ R1.out R2'.out).mono ?_
      rintro e w6 ⟨rfl, M6⟩
      have K6 := Lib.hid (S5.out.same M6)
      have B6 := Lib.hid (B5.out.mod M6 (fun q => q))
      have R1b := Lib.hid (R1.out.same M6)
      have R2 := Lib.hid (R2'.out.same M6)
      clear M6 S5 B5 R1 R2' HRT
      go_wp2_with fail
      refine (HT1.out _ (HL.out.same K6.out)).mono ?_
      rintro e w7 ⟨rfl, M7⟩
      have K7 := Lib.hid (K6.out.same M7)
      have B7 := Lib.hid (B6.out.mod M7 (fun q => q))
      have R1 := Lib.hid (R1b.out.same M7)
      have R2' := Lib.hid (R2.out.same M7)
      clear M7 K6 B6 R1b R2 HT1
      go_wp2_with fail
      go_cut [98] (fun v wx => v = .bool false ∧ Same w7 wx)
      case first =>
        have hc0 : w7.cell? ⟨Z, 0, none⟩ = some (.int .i64 (1 + (K : Int))) := B7.out.cell 0
        have hl0 := B7.out.lt
        have b1 : (0 : Int) ≤ 1 + (K : Int) := by omega
        have b2 : 1 + (K : Int) < 16 := by omega
        have b3 : (1 + (K : Int)).toNat = 1 + K := by omega
        refine wp_region_held_drew (S := fun w' => w'.cell? ⟨Z, 0, none⟩ = some (.int .i64 (1 + (K : Int)))) (by kernel_rfl) (by (try dsimp only); first | exact hc0 | exact hcA | exact hcB) (fun hHeld => ?_)
        refine wpAnyH_take (i := 0) (v := ?_) rfl (by kernel_rfl) (by kernel_rfl) (by kernel_rfl) (fun _ _ _ h => h) (Or.inl ⟨by rfl, ?_⟩) (by assumption) ?_
        rotate_left
        · intro w hSw
          try dsimp only at hSw
          go_simp
          try with_reducible rfl
        try simp only [List.getElem_toArray, List.getElem_cons_succ, List.getElem_cons_zero, Act.put, List.setIfInBounds_toArray, List.set_cons_zero, List.set_cons_succ]
        refine wpAnyH_take (i := 3) (v := ?_) rfl (by kernel_rfl) (by kernel_rfl) (by kernel_rfl) (fun _ _ _ h => h) (Or.inl ⟨by rfl, ?_⟩) (by assumption) ?_
        rotate_left
        · intro w hSw
          try dsimp only at hSw
          go_simp
          try with_reducible rfl
        try simp only [List.getElem_toArray, List.getElem_cons_succ, List.getElem_cons_zero, Act.put, List.setIfInBounds_toArray, List.set_cons_zero, List.set_cons_succ]
        refine wpAnyH_take (i := 4) (v := ?_) rfl (by kernel_rfl) (by kernel_rfl) (by kernel_rfl) (fun _ _ _ h => h) (Or.inl ⟨by rfl, ?_⟩) (by assumption) ?_
        rotate_left
        · intro w hSw
          try dsimp only at hSw
          go_simp
          try with_reducible rfl
        try simp only [List.getElem_toArray, List.getElem_cons_succ, List.getElem_cons_zero, Act.put, List.setIfInBounds_toArray, List.set_cons_zero, List.set_cons_succ]
        refine wpAnyH_ready (rs := [1]) (by kernel_rfl) (by simp) ?_
        refine AllReadyH.cons rfl (fun Kc hKc => ?_) AllReadyH.nil
        go_simp
        refine (HW.out _ _).mono ?_
        rintro e wA ⟨rfl, MA⟩
        have AW := Lib.hid ((Mod.refl (fun _ => False) w7).drew.same MA)
        have hcA := (AW.out.cell hl0 (fun q => q) 0).trans hc0
        clear MA
        go_wp2_with fail
        refine hKc.out _ _ (by (try dsimp only); first | exact hc0 | exact hcA | exact hcB) (fun hHeld => ?_)
        clear hKc Kc
        try simp only [List.getElem_toArray, List.getElem_cons_succ, List.getElem_cons_zero, Act.put, List.setIfInBounds_toArray, List.set_cons_zero, List.set_cons_succ]
        refine wpAnyH_ready (rs := [2]) (by kernel_rfl) (by simp) ?_
        refine AllReadyH.cons rfl (fun Kc hKc => ?_) AllReadyH.nil
        go_simp
        refine (words16_any _).mono ?_
        rintro e wB ⟨g, rfl, hB5, MB⟩
        have A122 := Lib.hid (AW.out.same MB)
        have hcB := (A122.out.cell hl0 (fun q => q) 0).trans hc0
        have hgl := hB5.lt
        have hgB : wB.cell? ⟨g, 1 + K, none⟩ = some (.string ⟨wl.toArray⟩) := (hB5.cell (1 + K)).trans (by rw [List.getElem?_toArray, List.getElem?_map, WG1.out]; rfl)
        clear MB hB5
        go_wp2_with fail
        refine hKc.out _ _ (by (try dsimp only); first | exact hc0 | exact hcA | exact hcB) (fun hHeld => ?_)
        clear hKc Kc
        try simp only [List.getElem_toArray, List.getElem_cons_succ, List.getElem_cons_zero, Act.put, List.setIfInBounds_toArray, List.set_cons_zero, List.set_cons_succ]
        refine wpAnyH_take (i := 5) (v := ?_) rfl (by kernel_rfl) (by kernel_rfl) (by kernel_rfl) (fun _ _ _ h => h) (Or.inl ⟨by rfl, ?_⟩) (by assumption) ?_
        rotate_left
        · intro w hSw
          try dsimp only at hSw
          go_simp
          try with_reducible rfl
        try simp only [List.getElem_toArray, List.getElem_cons_succ, List.getElem_cons_zero, Act.put, List.setIfInBounds_toArray, List.set_cons_zero, List.set_cons_succ]
        refine wpAnyH_ready (rs := [6]) (by kernel_rfl) (by simp) ?_
        refine AllReadyH.cons rfl (fun Kc hKc => ?_) AllReadyH.nil
        go_simp
        refine hKc.out _ _ (by (try dsimp only); first | exact hc0 | exact hcA | exact hcB) (fun hHeld => ?_)
        clear hKc Kc
        try simp only [List.getElem_toArray, List.getElem_cons_succ, List.getElem_cons_zero, Act.put, List.setIfInBounds_toArray, List.set_cons_zero, List.set_cons_succ]
        refine wpAnyH_take (i := 7) (v := ?_) rfl (by kernel_rfl) (by kernel_rfl) (by kernel_rfl) (fun _ _ _ h => h) (Or.inl ⟨by rfl, ?_⟩) (by assumption) ?_
        rotate_left
        · intro w hSw
          try dsimp only at hSw
          go_simp
          try with_reducible rfl
        try simp only [List.getElem_toArray, List.getElem_cons_succ, List.getElem_cons_zero, Act.put, List.setIfInBounds_toArray, List.set_cons_zero, List.set_cons_succ]
        refine wpAnyH_take (i := 8) (v := ?_) rfl (by kernel_rfl) (by kernel_rfl) (by kernel_rfl) (fun _ _ _ h => h) (Or.inl ⟨by rfl, ?_⟩) (by assumption) ?_
        rotate_left
        · intro w hSw
          try dsimp only at hSw
          go_simp
          try with_reducible rfl
        try simp only [List.getElem_toArray, List.getElem_cons_succ, List.getElem_cons_zero, Act.put, List.setIfInBounds_toArray, List.set_cons_zero, List.set_cons_succ]
        refine wpAnyH_take (i := 9) (v := ?_) rfl (by kernel_rfl) (by kernel_rfl) (by kernel_rfl) (fun _ _ _ h => h) (Or.inl ⟨by rfl, ?_⟩) (by assumption) ?_
        rotate_left
        · intro w hSw
          try dsimp only at hSw
          go_simp
          try with_reducible rfl
        try simp only [List.getElem_toArray, List.getElem_cons_succ, List.getElem_cons_zero, Act.put, List.setIfInBounds_toArray, List.set_cons_zero, List.set_cons_succ]
        refine wpAnyH_take (i := 10) (v := ?_) rfl (by kernel_rfl) (by kernel_rfl) (by kernel_rfl) (fun _ _ _ h => h) (Or.inl ⟨by rfl, ?_⟩) (by assumption) ?_
        rotate_left
        · intro w hSw
          try dsimp only at hSw
          go_simp
          try with_reducible rfl
        try simp only [List.getElem_toArray, List.getElem_cons_succ, List.getElem_cons_zero, Act.put, List.setIfInBounds_toArray, List.set_cons_zero, List.set_cons_succ]
        refine wpAnyH_take (i := 11) (v := ?_) rfl (by kernel_rfl) (by kernel_rfl) (by kernel_rfl) (fun _ _ _ h => h) (Or.inl ⟨by rfl, ?_⟩) (by assumption) ?_
        rotate_left
        · intro w hSw
          try dsimp only at hSw
          go_simp
          try with_reducible rfl
        try simp only [List.getElem_toArray, List.getElem_cons_succ, List.getElem_cons_zero, Act.put, List.setIfInBounds_toArray, List.set_cons_zero, List.set_cons_succ]
        refine wpAnyH_take (i := 12) (v := ?_) rfl (by kernel_rfl) (by kernel_rfl) (by kernel_rfl) (fun _ _ _ h => h) (Or.inl ⟨by rfl, ?_⟩) (by assumption) ?_
        rotate_left
        · intro w hSw
          try dsimp only at hSw
          go_simp
          try with_reducible rfl
        try simp only [List.getElem_toArray, List.getElem_cons_succ, List.getElem_cons_zero, Act.put, List.setIfInBounds_toArray, List.set_cons_zero, List.set_cons_succ]
        refine wpAnyH_take (i := 13) (v := ?_) rfl (by kernel_rfl) (by kernel_rfl) (by kernel_rfl) (fun _ _ _ h => h) (Or.inl ⟨by rfl, ?_⟩) (by assumption) ?_
        rotate_left
        · intro w hSw
          try dsimp only at hSw
          go_simp
          try with_reducible rfl
        try simp only [List.getElem_toArray, List.getElem_cons_succ, List.getElem_cons_zero, Act.put, List.setIfInBounds_toArray, List.set_cons_zero, List.set_cons_succ]
        refine wpAnyH_take (i := 14) (v := ?_) rfl (by kernel_rfl) (by kernel_rfl) (by kernel_rfl) (fun _ _ _ h => h) (Or.inl ⟨by rfl, ?_⟩) (by assumption) ?_
        rotate_left
        · intro w hSw
          try dsimp only at hSw
          go_simp
          try with_reducible rfl
        try simp only [List.getElem_toArray, List.getElem_cons_succ, List.getElem_cons_zero, Act.put, List.setIfInBounds_toArray, List.set_cons_zero, List.set_cons_succ]
        refine wpAnyH_take (i := 15) (v := ?_) rfl (by kernel_rfl) (by kernel_rfl) (by kernel_rfl) (fun _ _ _ h => h) (Or.inl ⟨by rfl, ?_⟩) (by assumption) ?_
        rotate_left
        · intro w hSw
          try dsimp only at hSw
          go_simp
          try with_reducible rfl
        try simp only [List.getElem_toArray, List.getElem_cons_succ, List.getElem_cons_zero, Act.put, List.setIfInBounds_toArray, List.set_cons_zero, List.set_cons_succ]
        refine wpAnyH_take (i := 16) (v := ?_) rfl (by kernel_rfl) (by kernel_rfl) (by kernel_rfl) (fun _ _ _ h => h) (Or.inl ⟨by rfl, ?_⟩) (by assumption) ?_
        rotate_left
        · intro w hSw
          try dsimp only at hSw
          go_simp
          try with_reducible rfl
        try simp only [List.getElem_toArray, List.getElem_cons_succ, List.getElem_cons_zero, Act.put, List.setIfInBounds_toArray, List.set_cons_zero, List.set_cons_succ]
        refine wpAnyH_take (i := 17) (v := ?_) rfl (by kernel_rfl) (by kernel_rfl) (by kernel_rfl) (fun _ _ _ h => h) (Or.inl ⟨by rfl, ?_⟩) (by assumption) ?_
        rotate_left
        · intro w hSw
          try dsimp only at hSw
          go_simp
          try with_reducible rfl
        try simp only [List.getElem_toArray, List.getElem_cons_succ, List.getElem_cons_zero, Act.put, List.setIfInBounds_toArray, List.set_cons_zero, List.set_cons_succ]
        refine wpAnyH_take (i := 18) (v := ?_) rfl (by kernel_rfl) (by kernel_rfl) (by kernel_rfl) (fun _ _ _ h => h) (Or.inl ⟨by rfl, ?_⟩) (by assumption) ?_
        rotate_left
        · intro w hSw
          try dsimp only at hSw
          go_simp
          try with_reducible rfl
        try simp only [List.getElem_toArray, List.getElem_cons_succ, List.getElem_cons_zero, Act.put, List.setIfInBounds_toArray, List.set_cons_zero, List.set_cons_succ]
        refine wpAnyH_take (i := 19) (v := ?_) rfl (by kernel_rfl) (by kernel_rfl) (by kernel_rfl) (fun _ _ _ h => h) (Or.inl ⟨by rfl, ?_⟩) (by assumption) ?_
        rotate_left
        · intro w hSw
          try dsimp only at hSw
          go_simp
          try with_reducible rfl
        try simp only [List.getElem_toArray, List.getElem_cons_succ, List.getElem_cons_zero, Act.put, List.setIfInBounds_toArray, List.set_cons_zero, List.set_cons_succ]
        refine wpAnyH_take (i := 20) (v := ?_) rfl (by kernel_rfl) (by kernel_rfl) (by kernel_rfl) (fun _ _ _ h => h) (Or.inl ⟨by rfl, ?_⟩) (by assumption) ?_
        rotate_left
        · intro w hSw
          try dsimp only at hSw
          go_simp
          try with_reducible rfl
        try simp only [List.getElem_toArray, List.getElem_cons_succ, List.getElem_cons_zero, Act.put, List.setIfInBounds_toArray, List.set_cons_zero, List.set_cons_succ]
        refine wpAnyH_take (i := 21) (v := ?_) rfl (by kernel_rfl) (by kernel_rfl) (by kernel_rfl) (fun _ _ _ h => h) (Or.inl ⟨by rfl, ?_⟩) (by assumption) ?_
        rotate_left
        · intro w hSw
          try dsimp only at hSw
          go_simp
          try with_reducible rfl
        try simp only [List.getElem_toArray, List.getElem_cons_succ, List.getElem_cons_zero, Act.put, List.setIfInBounds_toArray, List.set_cons_zero, List.set_cons_succ]
        refine wpAnyH_take (i := 22) (v := ?_) rfl (by kernel_rfl) (by kernel_rfl) (by kernel_rfl) (fun _ _ _ h => h) (Or.inl ⟨by rfl, ?_⟩) (by assumption) ?_
        rotate_left
        · intro w hSw
          try dsimp only at hSw
          go_simp
          try with_reducible rfl
        try simp only [List.getElem_toArray, List.getElem_cons_succ, List.getElem_cons_zero, Act.put, List.setIfInBounds_toArray, List.set_cons_zero, List.set_cons_succ]
        refine wpAnyH_take (i := 23) (v := undef) rfl (by kernel_rfl) (by kernel_rfl) (by kernel_rfl) (fun _ _ _ h => h) (Or.inr ⟨by rfl, rfl⟩) (by assumption) ?_
        try simp only [List.getElem_toArray, List.getElem_cons_succ, List.getElem_cons_zero, Act.put, List.setIfInBounds_toArray, List.set_cons_zero, List.set_cons_succ]
        refine wpAnyH_take (i := 24) (v := undef) rfl (by kernel_rfl) (by kernel_rfl) (by kernel_rfl) (fun _ _ _ h => h) (Or.inr ⟨by rfl, rfl⟩) (by assumption) ?_
        try simp only [List.getElem_toArray, List.getElem_cons_succ, List.getElem_cons_zero, Act.put, List.setIfInBounds_toArray, List.set_cons_zero, List.set_cons_succ]
        refine wpAnyH_take (i := 25) (v := ?_) rfl (by kernel_rfl) (by kernel_rfl) (by kernel_rfl) (fun _ _ _ h => h) (Or.inl ⟨by rfl, ?_⟩) (by assumption) ?_
        rotate_left
        · intro w hSw
          try dsimp only at hSw
          go_simp
          try with_reducible rfl
        try simp only [List.getElem_toArray, List.getElem_cons_succ, List.getElem_cons_zero, Act.put, List.setIfInBounds_toArray, List.set_cons_zero, List.set_cons_succ]
        refine wpAnyH_take (i := 26) (v := ?_) rfl (by kernel_rfl) (by kernel_rfl) (by kernel_rfl) (fun _ _ _ h => h) (Or.inl ⟨by rfl, ?_⟩) (by assumption) ?_
        rotate_left
        · intro w hSw
          try dsimp only at hSw
          go_simp
          try with_reducible rfl
        try simp only [List.getElem_toArray, List.getElem_cons_succ, List.getElem_cons_zero, Act.put, List.setIfInBounds_toArray, List.set_cons_zero, List.set_cons_succ]
        refine wpAnyH_done (by kernel_rfl) ?_ _
        all_goals
          go_wp2_with go_in
          go_meet
          exact ⟨rfl, A122.out⟩
      case rest =>
        obtain ⟨rfl, hMc⟩ := hcut
        have K8 := Lib.hid (K7.out.same hMc)
        have B8 := Lib.hid (B7.out.mod hMc (fun q => q))
        have R1b := Lib.hid (R1.out.same hMc)
        have R2 := Lib.hid (R2'.out.same hMc)
        clear hMc K7 B7 R1 R2' hm hcf hww hxs HW WG1
        go_wp2_with fail

        go_cut [120] (fun v wx => v = .bool false ∧ Same wc wx)
        case first =>
          have hb8 := B8.out.cell
          have hl8 := B8.out.lt
          refine wp_region_held_drew (S := fun w' => ∀ i, w'.cell? ⟨Z, i, none⟩ = #[.int .i64 (1 + (K : Int)), .slice p1 nl q1, .slice p2 tl q2][i]?) (by kernel_rfl) (by (try dsimp only); first | exact hb8 | exact hbA | exact hbB) (fun hHeld => ?_)
          refine wpAnyH_take (i := 0) (v := ?_) rfl (by kernel_rfl) (by kernel_rfl) (by kernel_rfl) (fun _ _ _ h => h) (Or.inl ⟨by rfl, ?_⟩) (by assumption) ?_
          rotate_left
          · intro w hSw
            try dsimp only at hSw
            go_simp
            try with_reducible rfl
          try simp only [List.getElem_toArray, List.getElem_cons_succ, List.getElem_cons_zero, Act.put, List.setIfInBounds_toArray, List.set_cons_zero, List.set_cons_succ]
          refine wpAnyH_take (i := 1) (v := ?_) rfl (by kernel_rfl) (by kernel_rfl) (by kernel_rfl) (fun _ _ _ h => h) (Or.inl ⟨by rfl, ?_⟩) (by assumption) ?_
          rotate_left
          · intro w hSw
            try dsimp only at hSw
            go_simp
            try with_reducible rfl
          try simp only [List.getElem_toArray, List.getElem_cons_succ, List.getElem_cons_zero, Act.put, List.setIfInBounds_toArray, List.set_cons_zero, List.set_cons_succ]
          refine wpAnyH_take (i := 2) (v := ?_) rfl (by kernel_rfl) (by kernel_rfl) (by kernel_rfl) (fun _ _ _ h => h) (Or.inl ⟨by rfl, ?_⟩) (by assumption) ?_
          rotate_left
          · intro w hSw
            try dsimp only at hSw
            go_simp
            try with_reducible rfl
          try simp only [List.getElem_toArray, List.getElem_cons_succ, List.getElem_cons_zero, Act.put, List.setIfInBounds_toArray, List.set_cons_zero, List.set_cons_succ]
          refine wpAnyH_take (i := 4) (v := ?_) rfl (by kernel_rfl) (by kernel_rfl) (by kernel_rfl) (fun _ _ _ h => h) (Or.inl ⟨by rfl, ?_⟩) (by assumption) ?_
          rotate_left
          · intro w hSw
            try dsimp only at hSw
            go_simp
            try with_reducible rfl
          try simp only [List.getElem_toArray, List.getElem_cons_succ, List.getElem_cons_zero, Act.put, List.setIfInBounds_toArray, List.set_cons_zero, List.set_cons_succ]
          refine wpAnyH_ready (rs := [3]) (by kernel_rfl) (by simp) ?_
          refine AllReadyH.cons rfl (fun Kc hKc => ?_) AllReadyH.nil
          go_simp
          refine (HF1.out _).mono ?_
          rintro e wA ⟨a3, c3, b3, d3, rfl, r3, r4, MA⟩
          have AA := Lib.hid ((Mod.refl (fun _ => False) wc).drew.same MA)
          have BA := Lib.hid (B8.out.mod AA.out (fun q => q))
          have hbA := BA.out.cell
          have R5A := Lib.hid (R1b.out.same AA.out)
          have R6A := Lib.hid (R2.out.same AA.out)
          have R3A := Lib.hid r3.row
          have R4A := Lib.hid r4.row
          clear MA r3 r4
          go_wp2_with fail
          refine hKc.out _ _ (by (try dsimp only); first | exact hb8 | exact hbA | exact hbB) (fun hHeld => ?_)
          clear hKc Kc
          try simp only [List.getElem_toArray, List.getElem_cons_succ, List.getElem_cons_zero, Act.put, List.setIfInBounds_toArray, List.set_cons_zero, List.set_cons_succ]
          refine wpAnyH_ready (rs := [5]) (by kernel_rfl) (by simp) ?_
          refine AllReadyH.cons rfl (fun Kc hKc => ?_) AllReadyH.nil
          go_simp
          refine (HSm.out _ _ _ _ _ _ _ _ _ R3A.out R5A.out R4A.out R6A.out).mono ?_
          rintro e wB ⟨rfl, MB⟩
          have AB := Lib.hid (AA.out.same MB)
          have hbB := (BA.out.mod MB (fun q => q)).cell
          clear MB
          go_wp2_with fail
          refine hKc.out _ _ (by (try dsimp only); first | exact hb8 | exact hbA | exact hbB) (fun hHeld => ?_)
          clear hKc Kc
          try simp only [List.getElem_toArray, List.getElem_cons_succ, List.getElem_cons_zero, Act.put, List.setIfInBounds_toArray, List.set_cons_zero, List.set_cons_succ]
          refine wpAnyH_take (i := 6) (v := ?_) rfl (by kernel_rfl) (by kernel_rfl) (by kernel_rfl) (fun _ _ _ h => h) (Or.inl ⟨by rfl, ?_⟩) (by assumption) ?_
          rotate_left
          · intro w hSw
            try dsimp only at hSw
            go_simp
            try with_reducible rfl
          try simp only [List.getElem_toArray, List.getElem_cons_succ, List.getElem_cons_zero, Act.put, List.setIfInBounds_toArray, List.set_cons_zero, List.set_cons_succ]
          refine wpAnyH_take (i := 7) (v := ?_) rfl (by kernel_rfl) (by kernel_rfl) (by kernel_rfl) (fun _ _ _ h => h) (Or.inl ⟨by rfl, ?_⟩) (by assumption) ?_
          rotate_left
          · intro w hSw
            try dsimp only at hSw
            go_simp
            try with_reducible rfl
          try simp only [List.getElem_toArray, List.getElem_cons_succ, List.getElem_cons_zero, Act.put, List.setIfInBounds_toArray, List.set_cons_zero, List.set_cons_succ]
          refine wpAnyH_take (i := 8) (v := ?_) rfl (by kernel_rfl) (by kernel_rfl) (by kernel_rfl) (fun _ _ _ h => h) (Or.inl ⟨by rfl, ?_⟩) (by assumption) ?_
          rotate_left
          · intro w hSw
            try dsimp only at hSw
            go_simp
            try with_reducible rfl
          try simp only [List.getElem_toArray, List.getElem_cons_succ, List.getElem_cons_zero, Act.put, List.setIfInBounds_toArray, List.set_cons_zero, List.set_cons_succ]
          refine wpAnyH_take (i := 9) (v := ?_) rfl (by kernel_rfl) (by kernel_rfl) (by kernel_rfl) (fun _ _ _ h => h) (Or.inl ⟨by rfl, ?_⟩) (by assumption) ?_
          rotate_left
          · intro w hSw
            try dsimp only at hSw
            go_simp
            try with_reducible rfl
          try simp only [List.getElem_toArray, List.getElem_cons_succ, List.getElem_cons_zero, Act.put, List.setIfInBounds_toArray, List.set_cons_zero, List.set_cons_succ]
          refine wpAnyH_take (i := 10) (v := ?_) rfl (by kernel_rfl) (by kernel_rfl) (by kernel_rfl) (fun _ _ _ h => h) (Or.inl ⟨by rfl, ?_⟩) (by assumption) ?_
          rotate_left
          · intro w hSw
            try dsimp only at hSw
            go_simp
            try with_reducible rfl
          try simp only [List.getElem_toArray, List.getElem_cons_succ, List.getElem_cons_zero, Act.put, List.setIfInBounds_toArray, List.set_cons_zero, List.set_cons_succ]
          refine wpAnyH_take (i := 11) (v := ?_) rfl (by kernel_rfl) (by kernel_rfl) (by kernel_rfl) (fun _ _ _ h => h) (Or.inl ⟨by rfl, ?_⟩) (by assumption) ?_
          rotate_left
          · intro w hSw
            try dsimp only at hSw
            go_simp
            try with_reducible rfl
          try simp only [List.getElem_toArray, List.getElem_cons_succ, List.getElem_cons_zero, Act.put, List.setIfInBounds_toArray, List.set_cons_zero, List.set_cons_succ]
          refine wpAnyH_take (i := 12) (v := undef) rfl (by kernel_rfl) (by kernel_rfl) (by kernel_rfl) (fun _ _ _ h => h) (Or.inr ⟨by rfl, rfl⟩) (by assumption) ?_
          try simp only [List.getElem_toArray, List.getElem_cons_succ, List.getElem_cons_zero, Act.put, List.setIfInBounds_toArray, List.set_cons_zero, List.set_cons_succ]
          refine wpAnyH_take (i := 13) (v := undef) rfl (by kernel_rfl) (by kernel_rfl) (by kernel_rfl) (fun _ _ _ h => h) (Or.inr ⟨by rfl, rfl⟩) (by assumption) ?_
          try simp only [List.getElem_toArray, List.getElem_cons_succ, List.getElem_cons_zero, Act.put, List.setIfInBounds_toArray, List.set_cons_zero, List.set_cons_succ]
          refine wpAnyH_take (i := 14) (v := undef) rfl (by kernel_rfl) (by kernel_rfl) (by kernel_rfl) (fun _ _ _ h => h) (Or.inr ⟨by rfl, rfl⟩) (by assumption) ?_
          try simp only [List.getElem_toArray, List.getElem_cons_succ, List.getElem_cons_zero, Act.put, List.setIfInBounds_toArray, List.set_cons_zero, List.set_cons_succ]
          refine wpAnyH_take (i := 15) (v := undef) rfl (by kernel_rfl) (by kernel_rfl) (by kernel_rfl) (fun _ _ _ h => h) (Or.inr ⟨by rfl, rfl⟩) (by assumption) ?_
          try simp only [List.getElem_toArray, List.getElem_cons_succ, List.getElem_cons_zero, Act.put, List.setIfInBounds_toArray, List.set_cons_zero, List.set_cons_succ]
          refine wpAnyH_take (i := 16) (v := undef) rfl (by kernel_rfl) (by kernel_rfl) (by kernel_rfl) (fun _ _ _ h => h) (Or.inr ⟨by rfl, rfl⟩) (by assumption) ?_
          try simp only [List.getElem_toArray, List.getElem_cons_succ, List.getElem_cons_zero, Act.put, List.setIfInBounds_toArray, List.set_cons_zero, List.set_cons_succ]
          refine wpAnyH_take (i := 17) (v := undef) rfl (by kernel_rfl) (by kernel_rfl) (by kernel_rfl) (fun _ _ _ h => h) (Or.inr ⟨by rfl, rfl⟩) (by assumption) ?_
          try simp only [List.getElem_toArray, List.getElem_cons_succ, List.getElem_cons_zero, Act.put, List.setIfInBounds_toArray, List.set_cons_zero, List.set_cons_succ]
          refine wpAnyH_take (i := 18) (v := undef) rfl (by kernel_rfl) (by kernel_rfl) (by kernel_rfl) (fun _ _ _ h => h) (Or.inr ⟨by rfl, rfl⟩) (by assumption) ?_
          try simp only [List.getElem_toArray, List.getElem_cons_succ, List.getElem_cons_zero, Act.put, List.setIfInBounds_toArray, List.set_cons_zero, List.set_cons_succ]
          refine wpAnyH_take (i := 19) (v := undef) rfl (by kernel_rfl) (by kernel_rfl) (by kernel_rfl) (fun _ _ _ h => h) (Or.inr ⟨by rfl, rfl⟩) (by assumption) ?_
          try simp only [List.getElem_toArray, List.getElem_cons_succ, List.getElem_cons_zero, Act.put, List.setIfInBounds_toArray, List.set_cons_zero, List.set_cons_succ]
          refine wpAnyH_take (i := 20) (v := ?_) rfl (by kernel_rfl) (by kernel_rfl) (by kernel_rfl) (fun _ _ _ h => h) (Or.inl ⟨by rfl, ?_⟩) (by assumption) ?_
          rotate_left
          · intro w hSw
            try dsimp only at hSw
            go_simp
            try with_reducible rfl
          try simp only [List.getElem_toArray, List.getElem_cons_succ, List.getElem_cons_zero, Act.put, List.setIfInBounds_toArray, List.set_cons_zero, List.set_cons_succ]
          refine wpAnyH_take (i := 21) (v := ?_) rfl (by kernel_rfl) (by kernel_rfl) (by kernel_rfl) (fun _ _ _ h => h) (Or.inl ⟨by rfl, ?_⟩) (by assumption) ?_
          rotate_left
          · intro w hSw
            try dsimp only at hSw
            go_simp
            try with_reducible rfl
          try simp only [List.getElem_toArray, List.getElem_cons_succ, List.getElem_cons_zero, Act.put, List.setIfInBounds_toArray, List.set_cons_zero, List.set_cons_succ]
          refine wpAnyH_done (by kernel_rfl) ?_ _
          all_goals
            go_wp2_with go_in
            go_meet
            exact ⟨rfl, AB.out⟩
        case rest =>
          obtain ⟨rfl, hMd⟩ := hcut
          have K9 := Lib.hid (K8.out.same hMd)
          clear hMd K8 B8 R1b R2 HF1 HSm
          go_wp2_with fail
          cases hq : parseL line with
          | none =>
            rw [hq] at HPl HRp
            unfold ansP at HPl
            unfold RefA at HRp
            dsimp only at HPl HRp
            clear hq HPF
            refine (HPl.out _ (HL.out.same K9.out)).mono ?_
            rintro e wP ⟨rfl, MP⟩
            have KP := Lib.hid (K9.out.same MP)
            clear MP K9 HPl
            go_wp2_with fail
            refine (HRp.out _).mono ?_
            rintro e wQ ⟨rfl, MQ⟩
            have KQ := Lib.hid (KP.out.same MQ)
            clear MQ KP HRp
            go_wp2
            exact HR.out _ _ ⟨rfl, KQ.out.alloc _⟩
          | some q =>
            rw [hq] at HPl HRp
            unfold ansP at HPl
            unfold RefA at HRp
            dsimp only at HPl HRp
            obtain ⟨fq, tq⟩ := HPF.out q hq
            have HFq := Lib.hid (form_any q fq tq)
            have HSq := Lib.hid (same_selfq q fq)
            obtain ⟨Tq, vq, hvq⟩ := ordW_iface q
            rw [hvq] at HPl HFq
            clear hq hvq fq tq HPF
            unfold FormV at HFq
            generalize q.ns.map (Value.int .i64) = qn at *
            generalize q.ts.map strV = qt at *
            generalize hqnl : qn.length = qnl at *
            generalize hqtl : qt.length = qtl at *
            generalize q.ns.length = qnm at *
            generalize q.ts.length = qtm at *
            generalize (q.k : Int) + 1 = qk at *
            clear hqnl hqtl
            refine (HPl.out _ (HL.out.same K9.out)).mono ?_
            rintro e wP ⟨rfl, MP⟩
            have KP := Lib.hid (K9.out.same MP)
            clear MP K9 HPl
            go_wp2_with fail
            refine (HRp.out _).mono ?_
            rintro e wQ ⟨⟨a5, c5, a6, c6, rfl, r5, r6⟩, MQ⟩
            have KQ0 := Lib.hid (KP.out.same MQ)
            have R5a := Lib.hid r5
            have R6a := Lib.hid r6
            clear MQ KP HRp r5 r6
            go_wp2_with fail
            have MN : Same wQ (wQ.alloc (.cells #[.int .i64 qk, .slice a5 qnm c5, .slice a6 qtm c6] 32)) := (Mod.refl _ _).alloc _
            have KQ := Lib.hid (KQ0.out.same MN)
            have BQ := Lib.hid (Blk.new wQ #[.int .i64 qk, .slice a5 qnm c5, .slice a6 qtm c6] 32)
            have R5 := Lib.hid (R5a.out.same MN)
            have R6 := Lib.hid (R6a.out.same MN)
            clear MN KQ0 R5a R6a
            generalize wQ.alloc _ = wR at *
            generalize hY : wQ.heap.size = Y at *
            have hbq := BQ.out.cell
            have hlq := BQ.out.lt
            go_region_held3 (fun w' => ∀ i, w'.cell? ⟨Y, i, none⟩ = #[.int .i64 qk, .slice a5 qnm c5, .slice a6 qtm c6][i]?) (first | exact hbq | exact hbA | exact hbB | assumption | go_keep) ((
              first
              | (go_at_call 14; refine (HFq.out _).mono ?_; rintro e wA ⟨a3, c3, b3, d3, rfl, r3, r4, MA⟩; have AA := Lib.hid ((Mod.refl (fun _ => False) wR).drew.same MA); have BA := Lib.hid (BQ.out.mod AA.out (fun q => q)); have hbA := BA.out.cell; have R5A := Lib.hid (R5.out.same AA.out); have R6A := Lib.hid (R6.out.same AA.out); have R3A := Lib.hid r3.row; have R4A := Lib.hid r4.row; clear MA r3 r4)
              | (go_at_call 13; refine (HSq.out _ _ _ _ _ _ _ _ _ R3A.out R5A.out R4A.out R6A.out).mono ?_; rintro e wB ⟨rfl, MB⟩; have AB := Lib.hid (AA.out.same MB); have hbB := (BA.out.mod MB (fun q => q)).cell; clear MB)))
            all_goals
              go_wp2_with fail
              exact HR.out _ _ ⟨rfl, KQ.out.same AB.out⟩
    | false =>
      have HT1 := Lib.hid (fun (w : World) (hL : LibOK w) => text_bad x HX.out hft w)
      have HN1 := Lib.hid (numbers_bad x HX.out hft)
      have HD1 := Lib.hid (data_bad x HX.out hft)
      have hrt : (⟨(refT x).toArray⟩ : ByteArray) = ⟨#[]⟩ := by unfold refT; rw [hft]; rfl
      rw [hrt, hft] at HRT
      have hxs : ((⟨#[]⟩ : ByteArray) != ⟨#[]⟩) = false := by decide
      clear hrt hft

      obtain ⟨T, hT⟩ : ∃ T, kT K = T := ⟨_, rfl⟩
      have hTx : kT x.k = T := by rw [HK.out]; exact hT
      rw [hT] at hF1
      obtain ⟨cs, hcs⟩ : ∃ cs, ordC x = cs := ⟨_, rfl⟩
      unfold ordW at HM1 HT1 HN1 HD1
      rw [hTx, hcs] at HM1 HT1 HN1 HD1
      have hm := hF1 cs
      have hcf := hF2 cs
      clear hT hTx hcs hF1 hF2

      obtain ⟨nl, hnl⟩ : ∃ nl, x.ns.length = nl := ⟨_, rfl⟩
      obtain ⟨tl, htl⟩ : ∃ tl, x.ts.length = tl := ⟨_, rfl⟩
      rw [hnl] at HNu HRT 
      rw [htl] at HTe HRT 
      clear hnl htl
      generalize x.ns.map (Value.int .i64) = xn at *
      generalize x.ts.map strV = xt at *
      go_enter Tryz.func3, Tryz.ntmps3
      go_wp2_with fail
      refine (HA.out _ HL.out).mono ?_
      rintro e w1 ⟨rfl, M1⟩
      have K1 := Lib.hid M1
      clear M1 HA
      go_wp2_with fail
      refine (HM1.out _).mono ?_
      rintro e w2 ⟨rfl, rfl⟩
      clear HM1
      go_wp2_with fail
      refine (HNu.out _).mono ?_
      rintro e w3 ⟨p1, q1, rfl, r1, M3⟩
      have K3 := Lib.hid (K1.out.same M3)
      have R1 := Lib.hid r1
      clear M3 K1 HNu r1
      go_wp2_with fail
      refine (HTe.out _).mono ?_
      rintro e w4 ⟨p2, q2, rfl, r2, M4⟩
      have K4 := Lib.hid (K3.out.same M4)
      have R1b := Lib.hid (R1.out.same M4)
      have R2 := Lib.hid r2
      clear M4 K3 HTe r2 R1
      go_wp2_with fail
      have S5 := Lib.hid (K4.out.alloc (.cells #[.int .i64 (1 + (K : Int)), .slice p1 nl q1, .slice p2 tl q2] 32))
      have B5 := Lib.hid (Blk.new w4 #[.int .i64 (1 + (K : Int)), .slice p1 nl q1, .slice p2 tl q2] 32)
      have M5 : Same w4 (w4.alloc (.cells #[.int .i64 (1 + (K : Int)), .slice p1 nl q1, .slice p2 tl q2] 32)) := (Mod.refl _ _).alloc _
      have R1 := Lib.hid (R1b.out.same M5)
      have R2' := Lib.hid (R2.out.same M5)
      clear M5 K4 R1b R2
      generalize w4.alloc _ = w5 at *
      generalize hZ : w4.heap.size = Z at *
      refine (HRT.out _ _ _ _ _ R1.out R2'.out).mono ?_
      rintro e w6 ⟨rfl, M6⟩
      have K6 := Lib.hid (S5.out.same M6)
      have B6 := Lib.hid (B5.out.mod M6 (fun q => q))
      have R1b := Lib.hid (R1.out.same M6)
      have R2 := Lib.hid (R2'.out.same M6)
      clear M6 S5 B5 R1 R2' HRT
      go_wp2_with fail
      refine (HT1.out _ (HL.out.same K6.out)).mono ?_
      rintro e w7 ⟨rfl, M7⟩
      have K7 := Lib.hid (K6.out.same M7)
      have B7 := Lib.hid (B6.out.mod M7 (fun q => q))
      have R1 := Lib.hid (R1b.out.same M7)
      have R2' := Lib.hid (R2.out.same M7)
      clear M7 K6 B6 R1b R2 HT1
      go_wp2_with fail
      go_cut [98] (fun v wx => v = .bool false ∧ Same w7 wx)
      case first =>
        have hc0 : w7.cell? ⟨Z, 0, none⟩ = some (.int .i64 (1 + (K : Int))) := B7.out.cell 0
        have hl0 := B7.out.lt
        have b1 : (0 : Int) ≤ 1 + (K : Int) := by omega
        have b2 : 1 + (K : Int) < 16 := by omega
        have b3 : (1 + (K : Int)).toNat = 1 + K := by omega
        refine wp_region_held_drew (S := fun w' => w'.cell? ⟨Z, 0, none⟩ = some (.int .i64 (1 + (K : Int)))) (by kernel_rfl) (by (try dsimp only); first | exact hc0 | exact hcA | exact hcB) (fun hHeld => ?_)
        refine wpAnyH_take (i := 0) (v := ?_) rfl (by kernel_rfl) (by kernel_rfl) (by kernel_rfl) (fun _ _ _ h => h) (Or.inl ⟨by rfl, ?_⟩) (by assumption) ?_
        rotate_left
        · intro w hSw
          try dsimp only at hSw
          go_simp
          try with_reducible rfl
        try simp only [List.getElem_toArray, List.getElem_cons_succ, List.getElem_cons_zero, Act.put, List.setIfInBounds_toArray, List.set_cons_zero, List.set_cons_succ]
        refine wpAnyH_take (i := 3) (v := ?_) rfl (by kernel_rfl) (by kernel_rfl) (by kernel_rfl) (fun _ _ _ h => h) (Or.inl ⟨by rfl, ?_⟩) (by assumption) ?_
        rotate_left
        · intro w hSw
          try dsimp only at hSw
          go_simp
          try with_reducible rfl
        try simp only [List.getElem_toArray, List.getElem_cons_succ, List.getElem_cons_zero, Act.put, List.setIfInBounds_toArray, List.set_cons_zero, List.set_cons_succ]
        refine wpAnyH_take (i := 4) (v := ?_) rfl (by kernel_rfl) (by kernel_rfl) (by kernel_rfl) (fun _ _ _ h => h) (Or.inl ⟨by rfl, ?_⟩) (by assumption) ?_
        rotate_left
        · intro w hSw
          try dsimp only at hSw
          go_simp
          try with_reducible rfl
        try simp only [List.getElem_toArray, List.getElem_cons_succ, List.getElem_cons_zero, Act.put, List.setIfInBounds_toArray, List.set_cons_zero, List.set_cons_succ]
        refine wpAnyH_ready (rs := [1]) (by kernel_rfl) (by simp) ?_
        refine AllReadyH.cons rfl (fun Kc hKc => ?_) AllReadyH.nil
        go_simp
        refine (HW.out _ _).mono ?_
        rintro e wA ⟨rfl, MA⟩
        have AW := Lib.hid ((Mod.refl (fun _ => False) w7).drew.same MA)
        have hcA := (AW.out.cell hl0 (fun q => q) 0).trans hc0
        clear MA
        go_wp2_with fail
        refine hKc.out _ _ (by (try dsimp only); first | exact hc0 | exact hcA | exact hcB) (fun hHeld => ?_)
        clear hKc Kc
        try simp only [List.getElem_toArray, List.getElem_cons_succ, List.getElem_cons_zero, Act.put, List.setIfInBounds_toArray, List.set_cons_zero, List.set_cons_succ]
        refine wpAnyH_ready (rs := [2]) (by kernel_rfl) (by simp) ?_
        refine AllReadyH.cons rfl (fun Kc hKc => ?_) AllReadyH.nil
        go_simp
        refine (words16_any _).mono ?_
        rintro e wB ⟨g, rfl, hB5, MB⟩
        have A122 := Lib.hid (AW.out.same MB)
        have hcB := (A122.out.cell hl0 (fun q => q) 0).trans hc0
        have hgl := hB5.lt
        have hgB : wB.cell? ⟨g, 1 + K, none⟩ = some (.string ⟨wl.toArray⟩) := (hB5.cell (1 + K)).trans (by rw [List.getElem?_toArray, List.getElem?_map, WG1.out]; rfl)
        clear MB hB5
        go_wp2_with fail
        refine hKc.out _ _ (by (try dsimp only); first | exact hc0 | exact hcA | exact hcB) (fun hHeld => ?_)
        clear hKc Kc
        try simp only [List.getElem_toArray, List.getElem_cons_succ, List.getElem_cons_zero, Act.put, List.setIfInBounds_toArray, List.set_cons_zero, List.set_cons_succ]
        refine wpAnyH_take (i := 5) (v := ?_) rfl (by kernel_rfl) (by kernel_rfl) (by kernel_rfl) (fun _ _ _ h => h) (Or.inl ⟨by rfl, ?_⟩) (by assumption) ?_
        rotate_left
        · intro w hSw
          try dsimp only at hSw
          go_simp
          try with_reducible rfl
        try simp only [List.getElem_toArray, List.getElem_cons_succ, List.getElem_cons_zero, Act.put, List.setIfInBounds_toArray, List.set_cons_zero, List.set_cons_succ]
        refine wpAnyH_ready (rs := [6]) (by kernel_rfl) (by simp) ?_
        refine AllReadyH.cons rfl (fun Kc hKc => ?_) AllReadyH.nil
        go_simp
        refine hKc.out _ _ (by (try dsimp only); first | exact hc0 | exact hcA | exact hcB) (fun hHeld => ?_)
        clear hKc Kc
        try simp only [List.getElem_toArray, List.getElem_cons_succ, List.getElem_cons_zero, Act.put, List.setIfInBounds_toArray, List.set_cons_zero, List.set_cons_succ]
        refine wpAnyH_take (i := 7) (v := ?_) rfl (by kernel_rfl) (by kernel_rfl) (by kernel_rfl) (fun _ _ _ h => h) (Or.inl ⟨by rfl, ?_⟩) (by assumption) ?_
        rotate_left
        · intro w hSw
          try dsimp only at hSw
          go_simp
          try with_reducible rfl
        try simp only [List.getElem_toArray, List.getElem_cons_succ, List.getElem_cons_zero, Act.put, List.setIfInBounds_toArray, List.set_cons_zero, List.set_cons_succ]
        refine wpAnyH_take (i := 8) (v := ?_) rfl (by kernel_rfl) (by kernel_rfl) (by kernel_rfl) (fun _ _ _ h => h) (Or.inl ⟨by rfl, ?_⟩) (by assumption) ?_
        rotate_left
        · intro w hSw
          try dsimp only at hSw
          go_simp
          try with_reducible rfl
        try simp only [List.getElem_toArray, List.getElem_cons_succ, List.getElem_cons_zero, Act.put, List.setIfInBounds_toArray, List.set_cons_zero, List.set_cons_succ]
        refine wpAnyH_take (i := 9) (v := ?_) rfl (by kernel_rfl) (by kernel_rfl) (by kernel_rfl) (fun _ _ _ h => h) (Or.inl ⟨by rfl, ?_⟩) (by assumption) ?_
        rotate_left
        · intro w hSw
          try dsimp only at hSw
          go_simp
          try with_reducible rfl
        try simp only [List.getElem_toArray, List.getElem_cons_succ, List.getElem_cons_zero, Act.put, List.setIfInBounds_toArray, List.set_cons_zero, List.set_cons_succ]
        refine wpAnyH_take (i := 10) (v := ?_) rfl (by kernel_rfl) (by kernel_rfl) (by kernel_rfl) (fun _ _ _ h => h) (Or.inl ⟨by rfl, ?_⟩) (by assumption) ?_
        rotate_left
        · intro w hSw
          try dsimp only at hSw
          go_simp
          try with_reducible rfl
        try simp only [List.getElem_toArray, List.getElem_cons_succ, List.getElem_cons_zero, Act.put, List.setIfInBounds_toArray, List.set_cons_zero, List.set_cons_succ]
        refine wpAnyH_take (i := 11) (v := ?_) rfl (by kernel_rfl) (by kernel_rfl) (by kernel_rfl) (fun _ _ _ h => h) (Or.inl ⟨by rfl, ?_⟩) (by assumption) ?_
        rotate_left
        · intro w hSw
          try dsimp only at hSw
          go_simp
          try with_reducible rfl
        try simp only [List.getElem_toArray, List.getElem_cons_succ, List.getElem_cons_zero, Act.put, List.setIfInBounds_toArray, List.set_cons_zero, List.set_cons_succ]
        refine wpAnyH_take (i := 12) (v := ?_) rfl (by kernel_rfl) (by kernel_rfl) (by kernel_rfl) (fun _ _ _ h => h) (Or.inl ⟨by rfl, ?_⟩) (by assumption) ?_
        rotate_left
        · intro w hSw
          try dsimp only at hSw
          go_simp
          try with_reducible rfl
        try simp only [List.getElem_toArray, List.getElem_cons_succ, List.getElem_cons_zero, Act.put, List.setIfInBounds_toArray, List.set_cons_zero, List.set_cons_succ]
        refine wpAnyH_take (i := 13) (v := ?_) rfl (by kernel_rfl) (by kernel_rfl) (by kernel_rfl) (fun _ _ _ h => h) (Or.inl ⟨by rfl, ?_⟩) (by assumption) ?_
        rotate_left
        · intro w hSw
          try dsimp only at hSw
          go_simp
          try with_reducible rfl
        try simp only [List.getElem_toArray, List.getElem_cons_succ, List.getElem_cons_zero, Act.put, List.setIfInBounds_toArray, List.set_cons_zero, List.set_cons_succ]
        refine wpAnyH_take (i := 14) (v := ?_) rfl (by kernel_rfl) (by kernel_rfl) (by kernel_rfl) (fun _ _ _ h => h) (Or.inl ⟨by rfl, ?_⟩) (by assumption) ?_
        rotate_left
        · intro w hSw
          try dsimp only at hSw
          go_simp
          try with_reducible rfl
        try simp only [List.getElem_toArray, List.getElem_cons_succ, List.getElem_cons_zero, Act.put, List.setIfInBounds_toArray, List.set_cons_zero, List.set_cons_succ]
        refine wpAnyH_take (i := 15) (v := ?_) rfl (by kernel_rfl) (by kernel_rfl) (by kernel_rfl) (fun _ _ _ h => h) (Or.inl ⟨by rfl, ?_⟩) (by assumption) ?_
        rotate_left
        · intro w hSw
          try dsimp only at hSw
          go_simp
          try with_reducible rfl
        try simp only [List.getElem_toArray, List.getElem_cons_succ, List.getElem_cons_zero, Act.put, List.setIfInBounds_toArray, List.set_cons_zero, List.set_cons_succ]
        refine wpAnyH_take (i := 16) (v := ?_) rfl (by kernel_rfl) (by kernel_rfl) (by kernel_rfl) (fun _ _ _ h => h) (Or.inl ⟨by rfl, ?_⟩) (by assumption) ?_
        rotate_left
        · intro w hSw
          try dsimp only at hSw
          go_simp
          try with_reducible rfl
        try simp only [List.getElem_toArray, List.getElem_cons_succ, List.getElem_cons_zero, Act.put, List.setIfInBounds_toArray, List.set_cons_zero, List.set_cons_succ]
        refine wpAnyH_take (i := 17) (v := ?_) rfl (by kernel_rfl) (by kernel_rfl) (by kernel_rfl) (fun _ _ _ h => h) (Or.inl ⟨by rfl, ?_⟩) (by assumption) ?_
        rotate_left
        · intro w hSw
          try dsimp only at hSw
          go_simp
          try with_reducible rfl
        try simp only [List.getElem_toArray, List.getElem_cons_succ, List.getElem_cons_zero, Act.put, List.setIfInBounds_toArray, List.set_cons_zero, List.set_cons_succ]
        refine wpAnyH_take (i := 18) (v := ?_) rfl (by kernel_rfl) (by kernel_rfl) (by kernel_rfl) (fun _ _ _ h => h) (Or.inl ⟨by rfl, ?_⟩) (by assumption) ?_
        rotate_left
        · intro w hSw
          try dsimp only at hSw
          go_simp
          try with_reducible rfl
        try simp only [List.getElem_toArray, List.getElem_cons_succ, List.getElem_cons_zero, Act.put, List.setIfInBounds_toArray, List.set_cons_zero, List.set_cons_succ]
        refine wpAnyH_take (i := 19) (v := ?_) rfl (by kernel_rfl) (by kernel_rfl) (by kernel_rfl) (fun _ _ _ h => h) (Or.inl ⟨by rfl, ?_⟩) (by assumption) ?_
        rotate_left
        · intro w hSw
          try dsimp only at hSw
          go_simp
          try with_reducible rfl
        try simp only [List.getElem_toArray, List.getElem_cons_succ, List.getElem_cons_zero, Act.put, List.setIfInBounds_toArray, List.set_cons_zero, List.set_cons_succ]
        refine wpAnyH_take (i := 20) (v := ?_) rfl (by kernel_rfl) (by kernel_rfl) (by kernel_rfl) (fun _ _ _ h => h) (Or.inl ⟨by rfl, ?_⟩) (by assumption) ?_
        rotate_left
        · intro w hSw
          try dsimp only at hSw
          go_simp
          try with_reducible rfl
        try simp only [List.getElem_toArray, List.getElem_cons_succ, List.getElem_cons_zero, Act.put, List.setIfInBounds_toArray, List.set_cons_zero, List.set_cons_succ]
        refine wpAnyH_take (i := 21) (v := ?_) rfl (by kernel_rfl) (by kernel_rfl) (by kernel_rfl) (fun _ _ _ h => h) (Or.inl ⟨by rfl, ?_⟩) (by assumption) ?_
        rotate_left
        · intro w hSw
          try dsimp only at hSw
          go_simp
          try with_reducible rfl
        try simp only [List.getElem_toArray, List.getElem_cons_succ, List.getElem_cons_zero, Act.put, List.setIfInBounds_toArray, List.set_cons_zero, List.set_cons_succ]
        refine wpAnyH_take (i := 22) (v := ?_) rfl (by kernel_rfl) (by kernel_rfl) (by kernel_rfl) (fun _ _ _ h => h) (Or.inl ⟨by rfl, ?_⟩) (by assumption) ?_
        rotate_left
        · intro w hSw
          try dsimp only at hSw
          go_simp
          try with_reducible rfl
        try simp only [List.getElem_toArray, List.getElem_cons_succ, List.getElem_cons_zero, Act.put, List.setIfInBounds_toArray, List.set_cons_zero, List.set_cons_succ]
        refine wpAnyH_take (i := 23) (v := ?_) rfl (by kernel_rfl) (by kernel_rfl) (by kernel_rfl) (fun _ _ _ h => h) (Or.inl ⟨by rfl, ?_⟩) (by assumption) ?_
        rotate_left
        · intro w hSw
          try dsimp only at hSw
          go_simp
          try with_reducible rfl
        try simp only [List.getElem_toArray, List.getElem_cons_succ, List.getElem_cons_zero, Act.put, List.setIfInBounds_toArray, List.set_cons_zero, List.set_cons_succ]
        refine wpAnyH_take (i := 24) (v := ?_) rfl (by kernel_rfl) (by kernel_rfl) (by kernel_rfl) (fun _ _ _ h => h) (Or.inl ⟨by rfl, ?_⟩) (by assumption) ?_
        rotate_left
        · intro w hSw
          try dsimp only at hSw
          go_simp
          try with_reducible rfl
        try simp only [List.getElem_toArray, List.getElem_cons_succ, List.getElem_cons_zero, Act.put, List.setIfInBounds_toArray, List.set_cons_zero, List.set_cons_succ]
        refine wpAnyH_take (i := 25) (v := ?_) rfl (by kernel_rfl) (by kernel_rfl) (by kernel_rfl) (fun _ _ _ h => h) (Or.inl ⟨by rfl, ?_⟩) (by assumption) ?_
        rotate_left
        · intro w hSw
          try dsimp only at hSw
          go_simp
          try with_reducible rfl
        try simp only [List.getElem_toArray, List.getElem_cons_succ, List.getElem_cons_zero, Act.put, List.setIfInBounds_toArray, List.set_cons_zero, List.set_cons_succ]
        refine wpAnyH_take (i := 26) (v := ?_) rfl (by kernel_rfl) (by kernel_rfl) (by kernel_rfl) (fun _ _ _ h => h) (Or.inl ⟨by rfl, ?_⟩) (by assumption) ?_
        rotate_left
        · intro w hSw
          try dsimp only at hSw
          go_simp
          try with_reducible rfl
        try simp only [List.getElem_toArray, List.getElem_cons_succ, List.getElem_cons_zero, Act.put, List.setIfInBounds_toArray, List.set_cons_zero, List.set_cons_succ]
        refine wpAnyH_done (by kernel_rfl) ?_ _
        all_goals
          go_wp2_with go_in
          go_meet
          exact ⟨rfl, A122.out⟩
      case rest =>
        obtain ⟨rfl, hMc⟩ := hcut
        have K8 := Lib.hid (K7.out.same hMc)
        have B8 := Lib.hid (B7.out.mod hMc (fun q => q))
        have R1b := Lib.hid (R1.out.same hMc)
        have R2 := Lib.hid (R2'.out.same hMc)
        clear hMc K7 B7 R1 R2' hm hcf hww hxs HW WG1
        go_wp2_with fail

        go_cut [120] (fun v wx => v = .bool false ∧ Same wc wx)
        case first =>
          refine wp_region_held_drew (S := fun _ => True) (by kernel_rfl) (by (try dsimp only); all_goals trivial) (fun hHeld => ?_)
          refine wpAnyH_take (i := 0) (v := ?_) rfl (by kernel_rfl) (by kernel_rfl) (by kernel_rfl) (fun _ _ _ h => h) (Or.inl ⟨by rfl, ?_⟩) (by assumption) ?_
          rotate_left
          · intro w hSw
            try dsimp only at hSw
            go_simp
            try with_reducible rfl
          try simp only [List.getElem_toArray, List.getElem_cons_succ, List.getElem_cons_zero, Act.put, List.setIfInBounds_toArray, List.set_cons_zero, List.set_cons_succ]
          refine wpAnyH_take (i := 1) (v := ?_) rfl (by kernel_rfl) (by kernel_rfl) (by kernel_rfl) (fun _ _ _ h => h) (Or.inl ⟨by rfl, ?_⟩) (by assumption) ?_
          rotate_left
          · intro w hSw
            try dsimp only at hSw
            go_simp
            try with_reducible rfl
          try simp only [List.getElem_toArray, List.getElem_cons_succ, List.getElem_cons_zero, Act.put, List.setIfInBounds_toArray, List.set_cons_zero, List.set_cons_succ]
          refine wpAnyH_take (i := 2) (v := undef) rfl (by kernel_rfl) (by kernel_rfl) (by kernel_rfl) (fun _ _ _ h => h) (Or.inr ⟨by rfl, rfl⟩) (by assumption) ?_
          try simp only [List.getElem_toArray, List.getElem_cons_succ, List.getElem_cons_zero, Act.put, List.setIfInBounds_toArray, List.set_cons_zero, List.set_cons_succ]
          refine wpAnyH_take (i := 3) (v := undef) rfl (by kernel_rfl) (by kernel_rfl) (by kernel_rfl) (fun _ _ _ h => h) (Or.inr ⟨by rfl, rfl⟩) (by assumption) ?_
          try simp only [List.getElem_toArray, List.getElem_cons_succ, List.getElem_cons_zero, Act.put, List.setIfInBounds_toArray, List.set_cons_zero, List.set_cons_succ]
          refine wpAnyH_take (i := 4) (v := undef) rfl (by kernel_rfl) (by kernel_rfl) (by kernel_rfl) (fun _ _ _ h => h) (Or.inr ⟨by rfl, rfl⟩) (by assumption) ?_
          try simp only [List.getElem_toArray, List.getElem_cons_succ, List.getElem_cons_zero, Act.put, List.setIfInBounds_toArray, List.set_cons_zero, List.set_cons_succ]
          refine wpAnyH_take (i := 5) (v := undef) rfl (by kernel_rfl) (by kernel_rfl) (by kernel_rfl) (fun _ _ _ h => h) (Or.inr ⟨by rfl, rfl⟩) (by assumption) ?_
          try simp only [List.getElem_toArray, List.getElem_cons_succ, List.getElem_cons_zero, Act.put, List.setIfInBounds_toArray, List.set_cons_zero, List.set_cons_succ]
          refine wpAnyH_take (i := 6) (v := undef) rfl (by kernel_rfl) (by kernel_rfl) (by kernel_rfl) (fun _ _ _ h => h) (Or.inr ⟨by rfl, rfl⟩) (by assumption) ?_
          try simp only [List.getElem_toArray, List.getElem_cons_succ, List.getElem_cons_zero, Act.put, List.setIfInBounds_toArray, List.set_cons_zero, List.set_cons_succ]
          refine wpAnyH_take (i := 7) (v := ?_) rfl (by kernel_rfl) (by kernel_rfl) (by kernel_rfl) (fun _ _ _ h => h) (Or.inl ⟨by rfl, ?_⟩) (by assumption) ?_
          rotate_left
          · intro w hSw
            try dsimp only at hSw
            go_simp
            try with_reducible rfl
          try simp only [List.getElem_toArray, List.getElem_cons_succ, List.getElem_cons_zero, Act.put, List.setIfInBounds_toArray, List.set_cons_zero, List.set_cons_succ]
          refine wpAnyH_take (i := 8) (v := ?_) rfl (by kernel_rfl) (by kernel_rfl) (by kernel_rfl) (fun _ _ _ h => h) (Or.inl ⟨by rfl, ?_⟩) (by assumption) ?_
          rotate_left
          · intro w hSw
            try dsimp only at hSw
            go_simp
            try with_reducible rfl
          try simp only [List.getElem_toArray, List.getElem_cons_succ, List.getElem_cons_zero, Act.put, List.setIfInBounds_toArray, List.set_cons_zero, List.set_cons_succ]
          refine wpAnyH_take (i := 9) (v := ?_) rfl (by kernel_rfl) (by kernel_rfl) (by kernel_rfl) (fun _ _ _ h => h) (Or.inl ⟨by rfl, ?_⟩) (by assumption) ?_
          rotate_left
          · intro w hSw
            try dsimp only at hSw
            go_simp
            try with_reducible rfl
          try simp only [List.getElem_toArray, List.getElem_cons_succ, List.getElem_cons_zero, Act.put, List.setIfInBounds_toArray, List.set_cons_zero, List.set_cons_succ]
          refine wpAnyH_take (i := 10) (v := ?_) rfl (by kernel_rfl) (by kernel_rfl) (by kernel_rfl) (fun _ _ _ h => h) (Or.inl ⟨by rfl, ?_⟩) (by assumption) ?_
          rotate_left
          · intro w hSw
            try dsimp only at hSw
            go_simp
            try with_reducible rfl
          try simp only [List.getElem_toArray, List.getElem_cons_succ, List.getElem_cons_zero, Act.put, List.setIfInBounds_toArray, List.set_cons_zero, List.set_cons_succ]
          refine wpAnyH_take (i := 11) (v := ?_) rfl (by kernel_rfl) (by kernel_rfl) (by kernel_rfl) (fun _ _ _ h => h) (Or.inl ⟨by rfl, ?_⟩) (by assumption) ?_
          rotate_left
          · intro w hSw
            try dsimp only at hSw
            go_simp
            try with_reducible rfl
          try simp only [List.getElem_toArray, List.getElem_cons_succ, List.getElem_cons_zero, Act.put, List.setIfInBounds_toArray, List.set_cons_zero, List.set_cons_succ]
          refine wpAnyH_take (i := 12) (v := ?_) rfl (by kernel_rfl) (by kernel_rfl) (by kernel_rfl) (fun _ _ _ h => h) (Or.inl ⟨by rfl, ?_⟩) (by assumption) ?_
          rotate_left
          · intro w hSw
            try dsimp only at hSw
            go_simp
            try with_reducible rfl
          try simp only [List.getElem_toArray, List.getElem_cons_succ, List.getElem_cons_zero, Act.put, List.setIfInBounds_toArray, List.set_cons_zero, List.set_cons_succ]
          refine wpAnyH_take (i := 15) (v := ?_) rfl (by kernel_rfl) (by kernel_rfl) (by kernel_rfl) (fun _ _ _ h => h) (Or.inl ⟨by rfl, ?_⟩) (by assumption) ?_
          rotate_left
          · intro w hSw
            try dsimp only at hSw
            go_simp
            try with_reducible rfl
          try simp only [List.getElem_toArray, List.getElem_cons_succ, List.getElem_cons_zero, Act.put, List.setIfInBounds_toArray, List.set_cons_zero, List.set_cons_succ]
          refine wpAnyH_ready (rs := [13]) (by kernel_rfl) (by simp) ?_
          refine AllReadyH.cons rfl (fun Kc hKc => ?_) AllReadyH.nil
          go_simp
          refine (HN1.out _).mono ?_
          rintro e wA ⟨rfl, MA⟩
          have AA := Lib.hid ((Mod.refl (fun _ => False) wc).drew.same MA)
          clear MA
          go_wp2_with fail
          refine hKc.out _ _ (by (try dsimp only); all_goals trivial) (fun hHeld => ?_)
          clear hKc Kc
          try simp only [List.getElem_toArray, List.getElem_cons_succ, List.getElem_cons_zero, Act.put, List.setIfInBounds_toArray, List.set_cons_zero, List.set_cons_succ]
          refine wpAnyH_take (i := 14) (v := ?_) rfl (by kernel_rfl) (by kernel_rfl) (by kernel_rfl) (fun _ _ _ h => h) (Or.inl ⟨by rfl, ?_⟩) (by assumption) ?_
          rotate_left
          · intro w hSw
            try dsimp only at hSw
            go_simp
            try with_reducible rfl
          try simp only [List.getElem_toArray, List.getElem_cons_succ, List.getElem_cons_zero, Act.put, List.setIfInBounds_toArray, List.set_cons_zero, List.set_cons_succ]
          refine wpAnyH_ready (rs := [16]) (by kernel_rfl) (by simp) ?_
          refine AllReadyH.cons rfl (fun Kc hKc => ?_) AllReadyH.nil
          go_simp
          refine (HD1.out _).mono ?_
          rintro e wB ⟨rfl, MB⟩
          have AB := Lib.hid (AA.out.same MB)
          clear MB
          go_wp2_with fail
          refine hKc.out _ _ (by (try dsimp only); all_goals trivial) (fun hHeld => ?_)
          clear hKc Kc
          try simp only [List.getElem_toArray, List.getElem_cons_succ, List.getElem_cons_zero, Act.put, List.setIfInBounds_toArray, List.set_cons_zero, List.set_cons_succ]
          refine wpAnyH_take (i := 17) (v := ?_) rfl (by kernel_rfl) (by kernel_rfl) (by kernel_rfl) (fun _ _ _ h => h) (Or.inl ⟨by rfl, ?_⟩) (by assumption) ?_
          rotate_left
          · intro w hSw
            try dsimp only at hSw
            go_simp
            try with_reducible rfl
          try simp only [List.getElem_toArray, List.getElem_cons_succ, List.getElem_cons_zero, Act.put, List.setIfInBounds_toArray, List.set_cons_zero, List.set_cons_succ]
          refine wpAnyH_take (i := 18) (v := ?_) rfl (by kernel_rfl) (by kernel_rfl) (by kernel_rfl) (fun _ _ _ h => h) (Or.inl ⟨by rfl, ?_⟩) (by assumption) ?_
          rotate_left
          · intro w hSw
            try dsimp only at hSw
            go_simp
            try with_reducible rfl
          try simp only [List.getElem_toArray, List.getElem_cons_succ, List.getElem_cons_zero, Act.put, List.setIfInBounds_toArray, List.set_cons_zero, List.set_cons_succ]
          refine wpAnyH_take (i := 19) (v := ?_) rfl (by kernel_rfl) (by kernel_rfl) (by kernel_rfl) (fun _ _ _ h => h) (Or.inl ⟨by rfl, ?_⟩) (by assumption) ?_
          rotate_left
          · intro w hSw
            try dsimp only at hSw
            go_simp
            try with_reducible rfl
          try simp only [List.getElem_toArray, List.getElem_cons_succ, List.getElem_cons_zero, Act.put, List.setIfInBounds_toArray, List.set_cons_zero, List.set_cons_succ]
          refine wpAnyH_take (i := 20) (v := ?_) rfl (by kernel_rfl) (by kernel_rfl) (by kernel_rfl) (fun _ _ _ h => h) (Or.inl ⟨by rfl, ?_⟩) (by assumption) ?_
          rotate_left
          · intro w hSw
            try dsimp only at hSw
            go_simp
            try with_reducible rfl
          try simp only [List.getElem_toArray, List.getElem_cons_succ, List.getElem_cons_zero, Act.put, List.setIfInBounds_toArray, List.set_cons_zero, List.set_cons_succ]
          refine wpAnyH_take (i := 21) (v := ?_) rfl (by kernel_rfl) (by kernel_rfl) (by kernel_rfl) (fun _ _ _ h => h) (Or.inl ⟨by rfl, ?_⟩) (by assumption) ?_
          rotate_left
          · intro w hSw
            try dsimp only at hSw
            go_simp
            try with_reducible rfl
          try simp only [List.getElem_toArray, List.getElem_cons_succ, List.getElem_cons_zero, Act.put, List.setIfInBounds_toArray, List.set_cons_zero, List.set_cons_succ]
          refine wpAnyH_done (by kernel_rfl) ?_ _
          all_goals
            go_wp2_with go_in
            go_meet
            exact ⟨rfl, AB.out⟩
        case rest =>
          obtain ⟨rfl, hMd⟩ := hcut
          have K9 := Lib.hid (K8.out.same hMd)
          clear hMd K8 B8 R1b R2 HN1 HD1
          go_wp2_with fail
          cases hq : parseL line with
          | none =>
            rw [hq] at HPl HRp
            unfold ansP at HPl
            unfold RefA at HRp
            dsimp only at HPl HRp
            clear hq HPF
            refine (HPl.out _ (HL.out.same K9.out)).mono ?_
            rintro e wP ⟨rfl, MP⟩
            have KP := Lib.hid (K9.out.same MP)
            clear MP K9 HPl
            go_wp2_with fail
            refine (HRp.out _).mono ?_
            rintro e wQ ⟨rfl, MQ⟩
            have KQ := Lib.hid (KP.out.same MQ)
            clear MQ KP HRp
            go_wp2
            exact HR.out _ _ ⟨rfl, KQ.out.alloc _⟩
          | some q =>
            rw [hq] at HPl HRp
            unfold ansP at HPl
            unfold RefA at HRp
            dsimp only at HPl HRp
            obtain ⟨fq, tq⟩ := HPF.out q hq
            have HFq := Lib.hid (form_any q fq tq)
            have HSq := Lib.hid (same_selfq q fq)
            obtain ⟨Tq, vq, hvq⟩ := ordW_iface q
            rw [hvq] at HPl HFq
            clear hq hvq fq tq HPF
            unfold FormV at HFq
            generalize q.ns.map (Value.int .i64) = qn at *
            generalize q.ts.map strV = qt at *
            generalize hqnl : qn.length = qnl at *
            generalize hqtl : qt.length = qtl at *
            generalize q.ns.length = qnm at *
            generalize q.ts.length = qtm at *
            generalize (q.k : Int) + 1 = qk at *
            clear hqnl hqtl
            refine (HPl.out _ (HL.out.same K9.out)).mono ?_
            rintro e wP ⟨rfl, MP⟩
            have KP := Lib.hid (K9.out.same MP)
            clear MP K9 HPl
            go_wp2_with fail
            refine (HRp.out _).mono ?_
            rintro e wQ ⟨⟨a5, c5, a6, c6, rfl, r5, r6⟩, MQ⟩
            have KQ0 := Lib.hid (KP.out.same MQ)
            have R5a := Lib.hid r5
            have R6a := Lib.hid r6
            clear MQ KP HRp r5 r6
            go_wp2_with fail
            have MN : Same wQ (wQ.alloc (.cells #[.int .i64 qk, .slice a5 qnm c5, .slice a6 qtm c6] 32)) := (Mod.refl _ _).alloc _
            have KQ := Lib.hid (KQ0.out.same MN)
            have BQ := Lib.hid (Blk.new wQ #[.int .i64 qk, .slice a5 qnm c5, .slice a6 qtm c6] 32)
            have R5 := Lib.hid (R5a.out.same MN)
            have R6 := Lib.hid (R6a.out.same MN)
            clear MN KQ0 R5a R6a
            generalize wQ.alloc _ = wR at *
            generalize hY : wQ.heap.size = Y at *
            have hbq := BQ.out.cell
            have hlq := BQ.out.lt
            go_region_held3 (fun w' => ∀ i, w'.cell? ⟨Y, i, none⟩ = #[.int .i64 qk, .slice a5 qnm c5, .slice a6 qtm c6][i]?) (first | exact hbq | exact hbA | exact hbB | assumption | go_keep) ((
              first
              | (go_at_call 14; refine (HFq.out _).mono ?_; rintro e wA ⟨a3, c3, b3, d3, rfl, r3, r4, MA⟩; have AA := Lib.hid ((Mod.refl (fun _ => False) wR).drew.same MA); have BA := Lib.hid (BQ.out.mod AA.out (fun q => q)); have hbA := BA.out.cell; have R5A := Lib.hid (R5.out.same AA.out); have R6A := Lib.hid (R6.out.same AA.out); have R3A := Lib.hid r3.row; have R4A := Lib.hid r4.row; clear MA r3 r4)
              | (go_at_call 13; refine (HSq.out _ _ _ _ _ _ _ _ _ R3A.out R5A.out R4A.out R6A.out).mono ?_; rintro e wB ⟨rfl, MB⟩; have AB := Lib.hid (AA.out.same MB); have hbB := (BA.out.mod MB (fun q => q)).cell; clear MB)))
            all_goals
              go_wp2_with fail
              exact HR.out _ _ ⟨rfl, KQ.out.same AB.out⟩
  · by_cases h1 : s.length ≤ 600
    · by_cases h2 : t.length ≤ 600
      · have h3 : ¬ line.length ≤ 2048 := fun q => h512 ⟨h1, h2, q⟩
        clear h512
        have g1 : decide ((600 : Int) < (s.length : Int)) = false := decide_eq_false (by omega)
        have g2 : decide ((600 : Int) < (t.length : Int)) = false := decide_eq_false (by omega)
        have g3 : decide ((2048 : Int) < (line.length : Int)) = true := decide_eq_true (by omega)
        go_enter Tryz.func3, Tryz.ntmps3
        go_wp2_with fail
        refine (HA.out _ HL.out).mono ?_
        rintro e w1 ⟨rfl, M1⟩
        have K1 := Lib.hid M1
        clear M1 HA
        go_wp2
        exact HR.out _ _ ⟨rfl, K1.out⟩
      · clear h512
        have g1 : decide ((600 : Int) < (s.length : Int)) = false := decide_eq_false (by omega)
        have g2 : decide ((600 : Int) < (t.length : Int)) = true := decide_eq_true (by omega)
        go_enter Tryz.func3, Tryz.ntmps3
        go_wp2_with fail
        refine (HA.out _ HL.out).mono ?_
        rintro e w1 ⟨rfl, M1⟩
        have K1 := Lib.hid M1
        clear M1 HA
        go_wp2
        exact HR.out _ _ ⟨rfl, K1.out⟩
    · clear h512
      have g1 : decide ((600 : Int) < (s.length : Int)) = true := decide_eq_true (by omega)
      go_enter Tryz.func3, Tryz.ntmps3
      go_wp2_with fail
      refine (HA.out _ HL.out).mono ?_
      rintro e w1 ⟨rfl, M1⟩
      have K1 := Lib.hid M1
      clear M1 HA
      go_wp2
      exact HR.out _ _ ⟨rfl, K1.out⟩
end Go.Proofs.YtdengmlidckkeaaGreatDoor
