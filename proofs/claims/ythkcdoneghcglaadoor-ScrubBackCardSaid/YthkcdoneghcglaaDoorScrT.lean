import Derived.Test.YthkcdoneghcglaaDoorScrS
import Derived.Test.YthkcdoneghcglaaDoorScrE
import Derived.Deep.RegionHeld3
set_option linter.unusedSimpArgs false
set_option linter.unusedVariables false
/- A line of scrub. -/
namespace Go.Proofs.YthkcdoneghcglaaDoor
open Go Go.RowKit
theorem pLine_len {l : List UInt8} (h : (spl l).length ≠ 4) : pLine l = none := by
  unfold pLine
  split
  · rename_i a b c d e; rw [e] at h; exact absurd rfl h
  · rfl
theorem pLine_num {l : List UInt8} (h : (spl l).length = 4) {k : Nat} (hk : k < 3) {x : List UInt8} (hx : (spl l)[k]? = some x) (hn : pNum x = none) : pLine l = none := by
  unfold pLine
  split
  · rename_i a b c d e
    rw [e] at hx
    have : k = 0 ∨ k = 1 ∨ k = 2 := by omega
    rcases this with rfl | rfl | rfl
    · simp at hx; subst hx; rw [hn]
    · simp at hx; subst hx; rw [hn]; split <;> simp_all
    · simp at hx; subst hx; rw [hn]; split <;> simp_all
  · rfl
theorem pLine_hex {l : List UInt8} {d : List UInt8} (hd : (spl l)[3]? = some d) (hn : hexV d = none) : pLine l = none := by
  unfold pLine
  split
  · rename_i a b c d' e
    rw [e] at hd
    simp at hd
    subst hd
    rw [hn]; split <;> simp_all
  · rfl
theorem pLine_all {l : List UInt8} {n0 n1 n2 : Int} {h : Nat} {a b c d : List UInt8} (e : spl l = [a, b, c, d]) (h0 : pNum a = some n0) (h1 : pNum b = some n1) (h2 : pNum c = some n2) (h3 : hexV d = some h) : pLine l = some ⟨n0, n1, n2, h⟩ := by
  unfold pLine
  rw [e]
  dsimp only
  rw [h0, h1, h2, h3]
theorem u32nat (a : Int) : ∃ A : Nat, IntKind.u32.wrap a = (A : Int) ∧ A < 4294967296 ∧ (0 ≤ a → a < 4294967296 → a = (A : Int)) := by
  refine ⟨(IntKind.u32.wrap a).toNat, ?_, ?_, ?_⟩ <;> (unfold IntKind.wrap; simp [IntKind.signed, IntKind.bits]; omega)
set_option maxRecDepth 10000 in
set_option maxHeartbeats 4000000 in
theorem line_any (l : List UInt8) (hl : l.length ≤ 1000000) (w : World) (hL : LibOK w) : Calls Tryd.prog 42 #[strV l] w fun e w' => e = .returned (ansO (pLine l)) ∧ Same w w' := by
  refine opq fun R HR => ?_
  have hsh := spl_len l
  have HE := Lib.hid hsh
  clear hsh
  unfold strV
  have h4 := hL.lt
  go_enter Tryd.func42, Tryd.ntmps42
  go_wp2_with fail
  have M0 := Lib.hid ((Mod.refl (fun _ => False) w).alloc (.cells #[.int .i64 0, .int .i64 0, .int .i64 0, .int .u32 0] 46))
  have B0 := Lib.hid (Blk.new w #[.int .i64 0, .int .i64 0, .int .i64 0, .int .u32 0] 46)
  have HL0 := Lib.hid (hL.same M0.out)
  clear hL
  generalize w.alloc _ = W at *
  generalize hZ : w.heap.size = Z at *
  refine (split_any l hl W HL0.out).mono ?_
  rintro e w1 ⟨g, rfl, hg, hcg, M1⟩
  have K1 := Lib.hid (M0.out.same M1)
  have B1 := Lib.hid (B0.out.mod M1 (fun q => q))
  have HL1 := Lib.hid (HL0.out.same M1)
  have HC := Lib.hid hcg
  have hZ1 : Z < w1.heap.size := B1.out.lt
  clear M0 B0 HL0 M1 hcg
  by_cases hn4 : (spl l).length = 4
  · obtain ⟨a, b, c, d, hws⟩ : ∃ a b c d, spl l = [a, b, c, d] := by
      match spl l, hn4 with
      | [a, b, c, d], _ => exact ⟨a, b, c, d, rfl⟩
    have HW := Lib.hid hws
    have H4 := Lib.hid hn4
    rw [hn4]
    have hd4 := HC.out 3 d (by rw [hws]; rfl)
    have HDL := Lib.hid (show d.length ≤ 1000000 from Nat.le_trans (HE.out d (by rw [hws]; simp)) hl)
    have HD4 := Lib.hid hd4
    clear hws hn4 hd4
    obtain ⟨i0, hi, hz0, hz1, hz2⟩ := info_parts info3
    have I0 := Lib.hid hi
    have Z0 := Lib.hid hz0
    have Z1 := Lib.hid hz1
    have Z2 := Lib.hid hz2
    clear hi hz0 hz1 hz2
    go_wp2_with fail
    go_loopw [21, 5] (fun i v wr => ∃ (k : Nat) (ns : List Int), k ≤ 3 ∧ i = .int .i64 k ∧ ns.length = k ∧ (∀ (j : Nat) (x : List UInt8) (n : Int), (spl l)[j]? = some x → ns[j]? = some n → pNum x = some n) ∧ wr.ownsRow w1.heap.size 3 1 v k (ns.map (Value.int .i64)) ∧ Same w1 wr) (fun i _ _ => 3 - (intOf i).toNat)
    case atStart => exact ⟨0, [], by omega, rfl, rfl, (fun j x n _ h => by simp at h), World.ownsRow_nil _ _ _ _, Mod.refl _ _⟩
    case round =>
      obtain ⟨k, ns, hk, rfl, hnl, hns, hown, hM⟩ := hrel
      have J1 := Lib.hid hown
      have J2 := Lib.hid hM
      have HN := Lib.hid hns
      have hsz : w1.heap.size ≤ wr.heap.size := hM.size
      clear hown hM hns
      by_cases hlt : k < 3
      · obtain ⟨x, hx⟩ : ∃ x, (spl l)[k]? = some x := by rw [HW.out]; exact ⟨_, List.getElem?_eq_getElem (by simp; omega)⟩
        have hcx := (J2.out.cell hg (fun q => q) (0 + k)).trans (HC.out k x hx)
        have hxl : x.length ≤ 1000000 := Nat.le_trans (HE.out x (List.mem_of_getElem? hx)) hl
        have HX := Lib.hid hx
        have hbx := bytes_size x
        have HA := Lib.hid (atoi_any ⟨x.toArray⟩ (by omega) wr (HL1.out.same J2.out))
        rw [show (⟨x.toArray⟩ : ByteArray).data.toList = x from rfl] at HA
        unfold strV at hcx
        rw [Nat.zero_add] at hcx
        clear hx
        rcases pNum_cases x with ⟨v, hv64, hav, hcase⟩ | ⟨hno, hpn⟩
        · rw [hav] at HA
          dsimp only at HA
          have HV := Lib.hid hcase
          clear hcase hav
          go_wp2_with fail
          refine HA.out.mono ?_
          rintro e w2 ⟨rfl, M2⟩
          have J3 := Lib.hid (J2.out.same M2)
          have J4 := Lib.hid (owns_same J1.out M2)
          have hcx2 := (M2.cell (Nat.lt_of_lt_of_le hg hsz) (fun q => q) k).trans hcx
          clear M2 J1 J2 HA hcx
          have HI := Lib.hid (itoa_any v hv64 w2 (HL1.out.same J3.out))
          rcases HV.out with ⟨hq, hp⟩ | ⟨hq, hp⟩
          · rw [hq] at HI
            have HP := Lib.hid hp
            clear hq hp HV
            go_wp2_with fail
            refine HI.out.mono ?_
            rintro e w3 ⟨rfl, M3⟩
            have J5 := Lib.hid (J3.out.same M3)
            have J6 := Lib.hid (owns_same J4.out M3)
            have hsz3 : w1.heap.size ≤ w3.heap.size := J5.out.size
            clear M3 J3 J4 HI hcx2
            go_wp2_with (at_builtin; refine wpList_append_own _ rfl (.tmp 39) (.tmp 41) 29 rfl w1.heap.size 3 i0 (.int .i64 0) 1 8 Tryd.underlying29 I0.out Z0.out Z1.out Z2.out rfl (by decide) _ _ _ rfl (J6.out.alloc _) ⟨w3.heap.size, 0, none⟩ 1 1 [.int .i64 v] rfl rfl (one_new _ _ _) (fun u hu => (by simp at hu; subst hu; rfl)) (by unfold maxLen; omega) (by omega) (by simp only [World.size_alloc]; omega) ?_; intro v' w5 hown' hgrow _)
            have P1 := Lib.hid (same_append J5.out J6.out hgrow)
            have P2 := Lib.hid hown'
            clear hown' hgrow
            go_roundw
            case rel =>
              refine ⟨k + 1, ns ++ [v], by omega, by go_num, by rw [List.length_append, hnl]; rfl, fun j y n hy hnj => ?_, by rw [List.map_append]; exact P2.out, P1.out⟩
              by_cases ej : j < ns.length
              · rw [List.getElem?_append_left ej] at hnj; exact HN.out j y n hy hnj
              · have hjk : j = k := by
                  have := (List.getElem?_eq_some_iff.1 hnj).1
                  simp at this; omega
                subst hjk
                rw [List.getElem?_append_right (by omega), hnl, Nat.sub_self] at hnj
                have e1 := HX.out
                rw [hy] at e1
                simp at hnj
                cases e1
                rw [← hnj]; exact HP.out
            case measure => simp [intOf]; omega
          · rw [pLine_num H4.out hlt HX.out hp] at HR
            have hq2 : (Lib.itoa v == x) = false := by simp [hq]
            clear hq hp HV
            go_wp2_with fail
            refine HI.out.mono ?_
            rintro e w3 ⟨rfl, M3⟩
            have J5 := Lib.hid (K1.out.same (J3.out.same M3))
            have B5 := Lib.hid (B1.out.mod (J3.out.same M3) (fun q => q))
            clear M3 J3 J4 HI hcx2
            generalize Lib.itoa v = iv at *
            have hc := B5.out.cell
            have hf := B5.out.free
            go_wp2
            have B4 := (((B5.out.set 0 (.int .i64 0)).set 1 (.int .i64 0)).set 2 (.int .i64 0)).set 3 (.int .u32 0)
            have M4 := (((J5.out.setCell (p := ⟨Z, 0, none⟩) (fun q => by dsimp only at q; omega) (.int .i64 0)).setCell (p := ⟨Z, 1, none⟩) (fun q => by dsimp only at q; omega) (.int .i64 0)).setCell (p := ⟨Z, 2, none⟩) (fun q => by dsimp only at q; omega) (.int .i64 0)).setCell (p := ⟨Z, 3, none⟩) (fun q => by dsimp only at q; omega) (.int .u32 0)
            have g0 := B4.cell 0
            have g1 := B4.cell 1
            have g2 := B4.cell 2
            have g3 := B4.cell 3
            have R2 := HR.out _ _ ⟨rfl, M4⟩
            clear B4 M4 hc hf
            generalize World.setCell _ _ _ = W9 at *
            exact bodyPost_ret (v := .tuple #[.agg #[.int .i64 0, .int .i64 0, .int .i64 0, .int .u32 0], .bool false]) (by simp [results, Tryd.results42, go_sem, g0, g1, g2, g3]) rfl R2
        · have HA2 : Calls Tryd.prog 58 #[.string ⟨x.toArray⟩] wr fun e w' => (∃ n N, e = .returned (.tuple #[.int .i64 n, .iface 129 (.pointer (some ⟨N, 0, none⟩))])) ∧ Same wr w' := by
            refine HA.out.mono ?_
            rintro e w2 ⟨h, M⟩
            refine ⟨?_, M⟩
            split at h
            · rename_i v hv; exact absurd hv (hno v)
            · exact h
          have HA3 := Lib.hid HA2
          rw [pLine_num H4.out hlt HX.out hpn] at HR
          clear HA HA2 hno hpn
          go_wp2_with fail
          refine HA3.out.mono ?_
          rintro e w2 ⟨⟨n, N, rfl⟩, M2⟩
          have J5 := Lib.hid (K1.out.same (J2.out.same M2))
          have B5 := Lib.hid (B1.out.mod (J2.out.same M2) (fun q => q))
          clear M2 J1 J2 HA3 hcx
          have hc := B5.out.cell
          have hf := B5.out.free
          go_wp2
          have B4 := (((B5.out.set 0 (.int .i64 0)).set 1 (.int .i64 0)).set 2 (.int .i64 0)).set 3 (.int .u32 0)
          have M4 := (((J5.out.setCell (p := ⟨Z, 0, none⟩) (fun q => by dsimp only at q; omega) (.int .i64 0)).setCell (p := ⟨Z, 1, none⟩) (fun q => by dsimp only at q; omega) (.int .i64 0)).setCell (p := ⟨Z, 2, none⟩) (fun q => by dsimp only at q; omega) (.int .i64 0)).setCell (p := ⟨Z, 3, none⟩) (fun q => by dsimp only at q; omega) (.int .u32 0)
          have g0 := B4.cell 0
          have g1 := B4.cell 1
          have g2 := B4.cell 2
          have g3 := B4.cell 3
          have R2 := HR.out _ _ ⟨rfl, M4⟩
          clear B4 M4 hc hf
          generalize World.setCell _ _ _ = W9 at *
          exact bodyPost_ret (v := .tuple #[.agg #[.int .i64 0, .int .i64 0, .int .i64 0, .int .u32 0], .bool false]) (by simp [results, Tryd.results42, go_sem, g0, g1, g2, g3]) rfl R2
      · obtain rfl : k = 3 := by omega
        obtain ⟨n0, n1, n2, rfl⟩ : ∃ n0 n1 n2, ns = [n0, n1, n2] := by
          match ns, hnl with
          | [n0, n1, n2], _ => exact ⟨n0, n1, n2, rfl⟩
        have HNN := Lib.hid (show pNum a = some n0 ∧ pNum b = some n1 ∧ pNum c = some n2 from ⟨HN.out 0 a n0 (by rw [HW.out]; rfl) rfl, HN.out 1 b n1 (by rw [HW.out]; rfl) rfl, HN.out 2 c n2 (by rw [HW.out]; rfl) rfl⟩)
        obtain ⟨g2, cap2, rfl, hg0, hgc, hrow⟩ := RowV.of_owns J1.out (by omega)
        have HRow := Lib.hid hrow
        have hcd := (J2.out.cell hg (fun q => q) 3).trans HD4.out
        have HP := Lib.hid (pu_any d HDL.out wr (HL1.out.same J2.out))
        unfold strV at hcd HP
        clear hrow HN hnl J1
        go_wp2_with fail
        refine HP.out.mono ?_
        rintro e w2 ⟨⟨u, err, rfl, u0, u1, hcase⟩, M2⟩
        have J3 := Lib.hid (J2.out.same M2)
        have HRow2 := Lib.hid (HRow.out.mod M2 (fun q => q))
        have hcd2 := (M2.cell (Nat.lt_of_lt_of_le hg hsz) (fun q => q) 3).trans hcd
        clear M2 HP HRow hcd
        rcases hcase with ⟨rfl, hv⟩ | ⟨hv, t, y, rfl, rfl, N, rfl⟩
        · obtain ⟨A, hwA, hAl, hAe⟩ := u32nat u
          have HH := Lib.hid (hex_any A hAl)
          unfold strV at HH
          by_cases hq : hexL A = d
          · have hVA : hexV d = some A := by rw [← hq]; exact hexV_L A hAl
            rw [pLine_all HW.out HNN.out.1 HNN.out.2.1 HNN.out.2.2 hVA] at HR
            rw [hq] at HH
            clear hv hAe hVA hq
            have hbne : (d != d) = false := by simp
            go_wp2_with fail
            refine wp_region_held_drew (S := (fun w' => w'.cell? ⟨g, 3, none⟩ = some (.string ⟨d.toArray⟩))) (by kernel_rfl) (by (try dsimp only); first | exact hcd2 | exact hcd3 | assumption) (fun hHeld => ?_)
            refine wpAnyH_take (i := 0) (v := ?_) rfl (by kernel_rfl) (by kernel_rfl) (by kernel_rfl) (fun _ _ _ h => h) (Or.inl ⟨by rfl, ?_⟩) (by assumption) ?_
            rotate_left
            · intro w hSw
              try dsimp only at hSw
              go_simp
              try with_reducible rfl
            try simp only [List.getElem_toArray, List.getElem_cons_succ, List.getElem_cons_zero, Act.put, List.setIfInBounds_toArray, List.set_cons_zero, List.set_cons_succ]
            refine wpAnyH_take (i := 1) (v := ?_) rfl (by kernel_rfl) (by kernel_rfl) (by kernel_rfl) (fun _ _ _ h => h) (Or.inl ⟨by rfl, ?_⟩) (by assumption) ?_
            rotate_left
            · intro w hSw
              try dsimp only at hSw
              go_simp
              try with_reducible rfl
            try simp only [List.getElem_toArray, List.getElem_cons_succ, List.getElem_cons_zero, Act.put, List.setIfInBounds_toArray, List.set_cons_zero, List.set_cons_succ]
            refine wpAnyH_take (i := 2) (v := ?_) rfl (by kernel_rfl) (by kernel_rfl) (by kernel_rfl) (fun _ _ _ h => h) (Or.inl ⟨by rfl, ?_⟩) (by assumption) ?_
            rotate_left
            · intro w hSw
              try dsimp only at hSw
              go_simp
              try with_reducible rfl
            try simp only [List.getElem_toArray, List.getElem_cons_succ, List.getElem_cons_zero, Act.put, List.setIfInBounds_toArray, List.set_cons_zero, List.set_cons_succ]
            refine wpAnyH_take (i := 3) (v := ?_) rfl (by kernel_rfl) (by kernel_rfl) (by kernel_rfl) (fun _ _ _ h => h) (Or.inl ⟨by rfl, ?_⟩) (by assumption) ?_
            rotate_left
            · intro w hSw
              try dsimp only at hSw
              go_simp
              try with_reducible rfl
            try simp only [List.getElem_toArray, List.getElem_cons_succ, List.getElem_cons_zero, Act.put, List.setIfInBounds_toArray, List.set_cons_zero, List.set_cons_succ]
            refine wpAnyH_take (i := 4) (v := ?_) rfl (by kernel_rfl) (by kernel_rfl) (by kernel_rfl) (fun _ _ _ h => h) (Or.inl ⟨by rfl, ?_⟩) (by assumption) ?_
            rotate_left
            · intro w hSw
              try dsimp only at hSw
              go_simp
              try with_reducible rfl
            try simp only [List.getElem_toArray, List.getElem_cons_succ, List.getElem_cons_zero, Act.put, List.setIfInBounds_toArray, List.set_cons_zero, List.set_cons_succ]
            refine wpAnyH_take (i := 6) (v := ?_) rfl (by kernel_rfl) (by kernel_rfl) (by kernel_rfl) (fun _ _ _ h => h) (Or.inl ⟨by rfl, ?_⟩) (by assumption) ?_
            rotate_left
            · intro w hSw
              try dsimp only at hSw
              go_simp
              try with_reducible rfl
            try simp only [List.getElem_toArray, List.getElem_cons_succ, List.getElem_cons_zero, Act.put, List.setIfInBounds_toArray, List.set_cons_zero, List.set_cons_succ]
            refine wpAnyH_take (i := 7) (v := ?_) rfl (by kernel_rfl) (by kernel_rfl) (by kernel_rfl) (fun _ _ _ h => h) (Or.inl ⟨by rfl, ?_⟩) (by assumption) ?_
            rotate_left
            · intro w hSw
              try dsimp only at hSw
              go_simp
              try with_reducible rfl
            try simp only [List.getElem_toArray, List.getElem_cons_succ, List.getElem_cons_zero, Act.put, List.setIfInBounds_toArray, List.set_cons_zero, List.set_cons_succ]
            refine wpAnyH_take (i := 8) (v := ?_) rfl (by kernel_rfl) (by kernel_rfl) (by kernel_rfl) (fun _ _ _ h => h) (Or.inl ⟨by rfl, ?_⟩) (by assumption) ?_
            rotate_left
            · intro w hSw
              try dsimp only at hSw
              go_simp
              try with_reducible rfl
            try simp only [List.getElem_toArray, List.getElem_cons_succ, List.getElem_cons_zero, Act.put, List.setIfInBounds_toArray, List.set_cons_zero, List.set_cons_succ]
            refine wpAnyH_ready (rs := [5]) (by kernel_rfl) (by simp) ?_
            refine AllReadyH.cons rfl (fun Kc hKc => ?_) AllReadyH.nil
            go_simp
            try rw [hwA]
            refine (HH.out _).mono ?_
            rintro e wC ⟨rfl, MC⟩
            have J4 := Lib.hid (J3.out.same ((Mod.refl (fun _ => False) _).drew.same MC))
            have HRow3 := Lib.hid (HRow2.out.mod ((Mod.refl (fun _ => False) _).drew.same MC) (fun q => q))
            have hcd3 := (((Mod.refl (fun _ => False) _).drew.same MC).cell (Nat.lt_of_lt_of_le hg J3.out.size) (fun q => q) 3).trans hcd2
            clear MC
            go_wp2_with fail
            refine hKc.out _ _ (by (try dsimp only); first | exact hcd2 | exact hcd3 | assumption) (fun hHeld => ?_)
            clear hKc Kc
            try simp only [List.getElem_toArray, List.getElem_cons_succ, List.getElem_cons_zero, Act.put, List.setIfInBounds_toArray, List.set_cons_zero, List.set_cons_succ]
            refine wpAnyH_take (i := 9) (v := ?_) rfl (by kernel_rfl) (by kernel_rfl) (by kernel_rfl) (fun _ _ _ h => h) (Or.inl ⟨by rfl, ?_⟩) (by assumption) ?_
            rotate_left
            · intro w hSw
              try dsimp only at hSw
              go_simp
              try with_reducible rfl
            try simp only [List.getElem_toArray, List.getElem_cons_succ, List.getElem_cons_zero, Act.put, List.setIfInBounds_toArray, List.set_cons_zero, List.set_cons_succ]
            refine wpAnyH_take (i := 10) (v := ?_) rfl (by kernel_rfl) (by kernel_rfl) (by kernel_rfl) (fun _ _ _ h => h) (Or.inl ⟨by rfl, ?_⟩) (by assumption) ?_
            rotate_left
            · intro w hSw
              try dsimp only at hSw
              go_simp
              try with_reducible rfl
            try simp only [List.getElem_toArray, List.getElem_cons_succ, List.getElem_cons_zero, Act.put, List.setIfInBounds_toArray, List.set_cons_zero, List.set_cons_succ]
            refine wpAnyH_done (by kernel_rfl) ?_ _
            have J5 := Lib.hid (K1.out.same J4.out)
            have B5 := Lib.hid (B1.out.mod J4.out (fun q => q))
            have hc := B5.out.cell
            have hf := B5.out.free
            have r0 := HRow3.out.cell 0 (by omega)
            have r1 := HRow3.out.cell 1 (by omega)
            have r2 := HRow3.out.cell 2 (by omega)
            simp only [List.map_cons, List.map_nil, List.getD_cons_zero, List.getD_cons_succ] at r0 r1 r2
            have hne : Z ≠ g2 := by omega
            have HRS := ((((HRow3.out.set_far (p := ⟨Z, 0, none⟩) hne (.int .i64 n0)).set_far (p := ⟨Z, 1, none⟩) hne (.int .i64 n1)).set_far (p := ⟨Z, 2, none⟩) hne (.int .i64 n2)).set_far (p := ⟨Z, 3, none⟩) hne (.int .u32 (A : Int))).drew
            have B6 := ((((B5.out.set 0 (.int .i64 n0)).set 1 (.int .i64 n1)).set 2 (.int .i64 n2)).set 3 (.int .u32 (A : Int))).drew
            have M6 := ((((J5.out.setCell (p := ⟨Z, 0, none⟩) (fun q => by dsimp only at q; omega) (.int .i64 n0)).setCell (p := ⟨Z, 1, none⟩) (fun q => by dsimp only at q; omega) (.int .i64 n1)).setCell (p := ⟨Z, 2, none⟩) (fun q => by dsimp only at q; omega) (.int .i64 n2)).setCell (p := ⟨Z, 3, none⟩) (fun q => by dsimp only at q; omega) (.int .u32 (A : Int))).drew
            have r3 := HRS.cell 0 (by omega)
            have r4 := HRS.cell 1 (by omega)
            have r5 := HRS.cell 2 (by omega)
            simp only [List.map_cons, List.map_nil, List.getD_cons_zero, List.getD_cons_succ] at r3 r4 r5
            have hkS := And.intro r3 (And.intro r4 r5)
            have HB6 := Lib.hid B6
            have HR2 := Lib.hid (HR.out _ _ ⟨rfl, M6⟩)
            clear HRS B6 M6 r3 r4 r5
            go_wp2_with fail
            refine wp_region_held_drew (S := (fun w' => w'.cell? ⟨g2, 0, none⟩ = some (.int .i64 n0) ∧ w'.cell? ⟨g2, 1, none⟩ = some (.int .i64 n1) ∧ w'.cell? ⟨g2, 2, none⟩ = some (.int .i64 n2))) (by kernel_rfl) (by (try dsimp only); first | exact ⟨r0, r1, r2⟩ | exact hkS | assumption) (fun hHeld => ?_)
            refine wpAnyH_take (i := 0) (v := ?_) rfl (by kernel_rfl) (by kernel_rfl) (by kernel_rfl) (fun _ _ _ h => h) (Or.inl ⟨by rfl, ?_⟩) (by assumption) ?_
            rotate_left
            · intro w hSw
              try dsimp only at hSw
              go_simp
              try with_reducible rfl
            try simp only [List.getElem_toArray, List.getElem_cons_succ, List.getElem_cons_zero, Act.put, List.setIfInBounds_toArray, List.set_cons_zero, List.set_cons_succ]
            refine wpAnyH_take (i := 1) (v := ?_) rfl (by kernel_rfl) (by kernel_rfl) (by kernel_rfl) (fun _ _ _ h => h) (Or.inl ⟨by rfl, ?_⟩) (by assumption) ?_
            rotate_left
            · intro w hSw
              try dsimp only at hSw
              go_simp
              try with_reducible rfl
            try simp only [List.getElem_toArray, List.getElem_cons_succ, List.getElem_cons_zero, Act.put, List.setIfInBounds_toArray, List.set_cons_zero, List.set_cons_succ]
            refine wpAnyH_take (i := 2) (v := ?_) rfl (by kernel_rfl) (by kernel_rfl) (by kernel_rfl) (fun _ _ _ h => h) (Or.inl ⟨by rfl, ?_⟩) (by assumption) ?_
            rotate_left
            · intro w hSw
              try dsimp only at hSw
              obtain ⟨q0, q1, q2⟩ := hSw
              go_simp
              try with_reducible rfl
            try simp only [List.getElem_toArray, List.getElem_cons_succ, List.getElem_cons_zero, Act.put, List.setIfInBounds_toArray, List.set_cons_zero, List.set_cons_succ]
            refine wpAnyH_take (i := 3) (v := ?_) rfl (by kernel_rfl) (by kernel_rfl) (by kernel_rfl) (fun _ _ _ h => h) (Or.inl ⟨by rfl, ?_⟩) (by assumption) ?_
            rotate_left
            · intro w hSw
              try dsimp only at hSw
              go_simp
              try with_reducible rfl
            try simp only [List.getElem_toArray, List.getElem_cons_succ, List.getElem_cons_zero, Act.put, List.setIfInBounds_toArray, List.set_cons_zero, List.set_cons_succ]
            refine wpAnyH_take (i := 4) (v := ?_) rfl (by kernel_rfl) (by kernel_rfl) (by kernel_rfl) (fun _ _ _ h => h) (Or.inl ⟨by rfl, ?_⟩) (by assumption) ?_
            rotate_left
            · intro w hSw
              try dsimp only at hSw
              go_simp
              try with_reducible rfl
            try simp only [List.getElem_toArray, List.getElem_cons_succ, List.getElem_cons_zero, Act.put, List.setIfInBounds_toArray, List.set_cons_zero, List.set_cons_succ]
            refine wpAnyH_take (i := 5) (v := ?_) rfl (by kernel_rfl) (by kernel_rfl) (by kernel_rfl) (fun _ _ _ h => h) (Or.inl ⟨by rfl, ?_⟩) (by assumption) ?_
            rotate_left
            · intro w hSw
              try dsimp only at hSw
              obtain ⟨q0, q1, q2⟩ := hSw
              go_simp
              try with_reducible rfl
            try simp only [List.getElem_toArray, List.getElem_cons_succ, List.getElem_cons_zero, Act.put, List.setIfInBounds_toArray, List.set_cons_zero, List.set_cons_succ]
            refine wpAnyH_take (i := 6) (v := ?_) rfl (by kernel_rfl) (by kernel_rfl) (by kernel_rfl) (fun _ _ _ h => h) (Or.inl ⟨by rfl, ?_⟩) (by assumption) ?_
            rotate_left
            · intro w hSw
              try dsimp only at hSw
              go_simp
              try with_reducible rfl
            try simp only [List.getElem_toArray, List.getElem_cons_succ, List.getElem_cons_zero, Act.put, List.setIfInBounds_toArray, List.set_cons_zero, List.set_cons_succ]
            refine wpAnyH_take (i := 7) (v := ?_) rfl (by kernel_rfl) (by kernel_rfl) (by kernel_rfl) (fun _ _ _ h => h) (Or.inl ⟨by rfl, ?_⟩) (by assumption) ?_
            rotate_left
            · intro w hSw
              try dsimp only at hSw
              go_simp
              try with_reducible rfl
            try simp only [List.getElem_toArray, List.getElem_cons_succ, List.getElem_cons_zero, Act.put, List.setIfInBounds_toArray, List.set_cons_zero, List.set_cons_succ]
            refine wpAnyH_take (i := 8) (v := ?_) rfl (by kernel_rfl) (by kernel_rfl) (by kernel_rfl) (fun _ _ _ h => h) (Or.inl ⟨by rfl, ?_⟩) (by assumption) ?_
            rotate_left
            · intro w hSw
              try dsimp only at hSw
              obtain ⟨q0, q1, q2⟩ := hSw
              go_simp
              try with_reducible rfl
            try simp only [List.getElem_toArray, List.getElem_cons_succ, List.getElem_cons_zero, Act.put, List.setIfInBounds_toArray, List.set_cons_zero, List.set_cons_succ]
            refine wpAnyH_take (i := 9) (v := ?_) rfl (by kernel_rfl) (by kernel_rfl) (by kernel_rfl) (fun _ _ _ h => h) (Or.inl ⟨by rfl, ?_⟩) (by assumption) ?_
            rotate_left
            · intro w hSw
              try dsimp only at hSw
              go_simp
              try with_reducible rfl
            try simp only [List.getElem_toArray, List.getElem_cons_succ, List.getElem_cons_zero, Act.put, List.setIfInBounds_toArray, List.set_cons_zero, List.set_cons_succ]
            refine wpAnyH_take (i := 10) (v := ?_) rfl (by kernel_rfl) (by kernel_rfl) (by kernel_rfl) (fun _ _ _ h => h) (Or.inl ⟨by rfl, ?_⟩) (by assumption) ?_
            rotate_left
            · intro w hSw
              try dsimp only at hSw
              go_simp
              try with_reducible rfl
            try simp only [List.getElem_toArray, List.getElem_cons_succ, List.getElem_cons_zero, Act.put, List.setIfInBounds_toArray, List.set_cons_zero, List.set_cons_succ]
            refine wpAnyH_take (i := 11) (v := ?_) rfl (by kernel_rfl) (by kernel_rfl) (by kernel_rfl) (fun _ _ _ h => h) (Or.inl ⟨by rfl, ?_⟩) (by assumption) ?_
            rotate_left
            · intro w hSw
              try dsimp only at hSw
              go_simp
              try with_reducible rfl
            try simp only [List.getElem_toArray, List.getElem_cons_succ, List.getElem_cons_zero, Act.put, List.setIfInBounds_toArray, List.set_cons_zero, List.set_cons_succ]
            refine wpAnyH_take (i := 12) (v := ?_) rfl (by kernel_rfl) (by kernel_rfl) (by kernel_rfl) (fun _ _ _ h => h) (Or.inl ⟨by rfl, ?_⟩) (by assumption) ?_
            rotate_left
            · intro w hSw
              try dsimp only at hSw
              go_simp
              try with_reducible rfl
            try simp only [List.getElem_toArray, List.getElem_cons_succ, List.getElem_cons_zero, Act.put, List.setIfInBounds_toArray, List.set_cons_zero, List.set_cons_succ]
            refine wpAnyH_ready (rs := [13]) (by kernel_rfl) (by simp) ?_
            refine AllReadyH.cons rfl (fun Kc hKc => ?_) AllReadyH.nil
            go_simp
            refine hKc.out _ _ (by (try dsimp only); first | exact ⟨r0, r1, r2⟩ | exact hkS | assumption) (fun hHeld => ?_)
            clear hKc Kc
            try simp only [List.getElem_toArray, List.getElem_cons_succ, List.getElem_cons_zero, Act.put, List.setIfInBounds_toArray, List.set_cons_zero, List.set_cons_succ]
            refine wpAnyH_take (i := 14) (v := ?_) rfl (by kernel_rfl) (by kernel_rfl) (by kernel_rfl) (fun _ _ _ h => h) (Or.inl ⟨by rfl, ?_⟩) (by assumption) ?_
            rotate_left
            · intro w hSw
              try dsimp only at hSw
              go_simp
              try with_reducible rfl
            try simp only [List.getElem_toArray, List.getElem_cons_succ, List.getElem_cons_zero, Act.put, List.setIfInBounds_toArray, List.set_cons_zero, List.set_cons_succ]
            refine wpAnyH_done (by kernel_rfl) ?_ _
            go_wp2_with fail
            have gg0 := HB6.out.cell 0
            have gg1 := HB6.out.cell 1
            have gg2 := HB6.out.cell 2
            have gg3 := HB6.out.cell 3
            clear hkS hc hf
            generalize World.drew _ = W9 at *
            exact bodyPost_ret (v := .tuple #[.agg #[.int .i64 n0, .int .i64 n1, .int .i64 n2, .int .u32 (A : Int)], .bool true]) (by simp [results, Tryd.results42, go_sem, gg0, gg1, gg2, gg3]) rfl HR2.out
          · rw [pLine_hex (d := d) (by rw [HW.out]; rfl) (by
              cases e : hexV d with
              | none => rfl
              | some h =>
                exfalso
                have h1 := hexL_V e
                have h2 := hv h e
                have h3 := hAe (by omega) (by omega)
                have : A = h := by omega
                subst this
                exact hq h1.1)] at HR
            have hq2 : (hexL A == d) = false := by simp [hq]
            have hq3 : (hexL A != d) = true := by simp [bne, hq2]
            generalize hexL A = hA at *
            clear hv hAe hq
            go_wp2_with fail
            refine wp_region_held_drew (S := (fun w' => w'.cell? ⟨g, 3, none⟩ = some (.string ⟨d.toArray⟩))) (by kernel_rfl) (by (try dsimp only); first | exact hcd2 | exact hcd3 | assumption) (fun hHeld => ?_)
            refine wpAnyH_take (i := 0) (v := ?_) rfl (by kernel_rfl) (by kernel_rfl) (by kernel_rfl) (fun _ _ _ h => h) (Or.inl ⟨by rfl, ?_⟩) (by assumption) ?_
            rotate_left
            · intro w hSw
              try dsimp only at hSw
              go_simp
              try with_reducible rfl
            try simp only [List.getElem_toArray, List.getElem_cons_succ, List.getElem_cons_zero, Act.put, List.setIfInBounds_toArray, List.set_cons_zero, List.set_cons_succ]
            refine wpAnyH_take (i := 1) (v := ?_) rfl (by kernel_rfl) (by kernel_rfl) (by kernel_rfl) (fun _ _ _ h => h) (Or.inl ⟨by rfl, ?_⟩) (by assumption) ?_
            rotate_left
            · intro w hSw
              try dsimp only at hSw
              go_simp
              try with_reducible rfl
            try simp only [List.getElem_toArray, List.getElem_cons_succ, List.getElem_cons_zero, Act.put, List.setIfInBounds_toArray, List.set_cons_zero, List.set_cons_succ]
            refine wpAnyH_take (i := 2) (v := ?_) rfl (by kernel_rfl) (by kernel_rfl) (by kernel_rfl) (fun _ _ _ h => h) (Or.inl ⟨by rfl, ?_⟩) (by assumption) ?_
            rotate_left
            · intro w hSw
              try dsimp only at hSw
              go_simp
              try with_reducible rfl
            try simp only [List.getElem_toArray, List.getElem_cons_succ, List.getElem_cons_zero, Act.put, List.setIfInBounds_toArray, List.set_cons_zero, List.set_cons_succ]
            refine wpAnyH_take (i := 3) (v := ?_) rfl (by kernel_rfl) (by kernel_rfl) (by kernel_rfl) (fun _ _ _ h => h) (Or.inl ⟨by rfl, ?_⟩) (by assumption) ?_
            rotate_left
            · intro w hSw
              try dsimp only at hSw
              go_simp
              try with_reducible rfl
            try simp only [List.getElem_toArray, List.getElem_cons_succ, List.getElem_cons_zero, Act.put, List.setIfInBounds_toArray, List.set_cons_zero, List.set_cons_succ]
            refine wpAnyH_take (i := 4) (v := ?_) rfl (by kernel_rfl) (by kernel_rfl) (by kernel_rfl) (fun _ _ _ h => h) (Or.inl ⟨by rfl, ?_⟩) (by assumption) ?_
            rotate_left
            · intro w hSw
              try dsimp only at hSw
              go_simp
              try with_reducible rfl
            try simp only [List.getElem_toArray, List.getElem_cons_succ, List.getElem_cons_zero, Act.put, List.setIfInBounds_toArray, List.set_cons_zero, List.set_cons_succ]
            refine wpAnyH_take (i := 6) (v := ?_) rfl (by kernel_rfl) (by kernel_rfl) (by kernel_rfl) (fun _ _ _ h => h) (Or.inl ⟨by rfl, ?_⟩) (by assumption) ?_
            rotate_left
            · intro w hSw
              try dsimp only at hSw
              go_simp
              try with_reducible rfl
            try simp only [List.getElem_toArray, List.getElem_cons_succ, List.getElem_cons_zero, Act.put, List.setIfInBounds_toArray, List.set_cons_zero, List.set_cons_succ]
            refine wpAnyH_take (i := 7) (v := ?_) rfl (by kernel_rfl) (by kernel_rfl) (by kernel_rfl) (fun _ _ _ h => h) (Or.inl ⟨by rfl, ?_⟩) (by assumption) ?_
            rotate_left
            · intro w hSw
              try dsimp only at hSw
              go_simp
              try with_reducible rfl
            try simp only [List.getElem_toArray, List.getElem_cons_succ, List.getElem_cons_zero, Act.put, List.setIfInBounds_toArray, List.set_cons_zero, List.set_cons_succ]
            refine wpAnyH_take (i := 8) (v := ?_) rfl (by kernel_rfl) (by kernel_rfl) (by kernel_rfl) (fun _ _ _ h => h) (Or.inl ⟨by rfl, ?_⟩) (by assumption) ?_
            rotate_left
            · intro w hSw
              try dsimp only at hSw
              go_simp
              try with_reducible rfl
            try simp only [List.getElem_toArray, List.getElem_cons_succ, List.getElem_cons_zero, Act.put, List.setIfInBounds_toArray, List.set_cons_zero, List.set_cons_succ]
            refine wpAnyH_ready (rs := [5]) (by kernel_rfl) (by simp) ?_
            refine AllReadyH.cons rfl (fun Kc hKc => ?_) AllReadyH.nil
            go_simp
            try rw [hwA]
            refine (HH.out _).mono ?_
            rintro e wC ⟨rfl, MC⟩
            have J4 := Lib.hid (J3.out.same ((Mod.refl (fun _ => False) _).drew.same MC))
            have HRow3 := Lib.hid (HRow2.out.mod ((Mod.refl (fun _ => False) _).drew.same MC) (fun q => q))
            have hcd3 := (((Mod.refl (fun _ => False) _).drew.same MC).cell (Nat.lt_of_lt_of_le hg J3.out.size) (fun q => q) 3).trans hcd2
            clear MC
            go_wp2_with fail
            refine hKc.out _ _ (by (try dsimp only); first | exact hcd2 | exact hcd3 | assumption) (fun hHeld => ?_)
            clear hKc Kc
            try simp only [List.getElem_toArray, List.getElem_cons_succ, List.getElem_cons_zero, Act.put, List.setIfInBounds_toArray, List.set_cons_zero, List.set_cons_succ]
            refine wpAnyH_take (i := 9) (v := ?_) rfl (by kernel_rfl) (by kernel_rfl) (by kernel_rfl) (fun _ _ _ h => h) (Or.inl ⟨by rfl, ?_⟩) (by assumption) ?_
            rotate_left
            · intro w hSw
              try dsimp only at hSw
              go_simp
              try with_reducible rfl
            try simp only [List.getElem_toArray, List.getElem_cons_succ, List.getElem_cons_zero, Act.put, List.setIfInBounds_toArray, List.set_cons_zero, List.set_cons_succ]
            refine wpAnyH_take (i := 10) (v := ?_) rfl (by kernel_rfl) (by kernel_rfl) (by kernel_rfl) (fun _ _ _ h => h) (Or.inl ⟨by rfl, ?_⟩) (by assumption) ?_
            rotate_left
            · intro w hSw
              try dsimp only at hSw
              go_simp
              try with_reducible rfl
            try simp only [List.getElem_toArray, List.getElem_cons_succ, List.getElem_cons_zero, Act.put, List.setIfInBounds_toArray, List.set_cons_zero, List.set_cons_succ]
            refine wpAnyH_done (by kernel_rfl) ?_ _
            have J5 := Lib.hid (K1.out.same J4.out)
            have B5 := Lib.hid (B1.out.mod J4.out (fun q => q))
            have hc := B5.out.cell
            have hf := B5.out.free
            go_wp2
            have B4 := (((B5.out.set 0 (.int .i64 0)).set 1 (.int .i64 0)).set 2 (.int .i64 0)).set 3 (.int .u32 0)
            have M4 := (((J5.out.setCell (p := ⟨Z, 0, none⟩) (fun q => by dsimp only at q; omega) (.int .i64 0)).setCell (p := ⟨Z, 1, none⟩) (fun q => by dsimp only at q; omega) (.int .i64 0)).setCell (p := ⟨Z, 2, none⟩) (fun q => by dsimp only at q; omega) (.int .i64 0)).setCell (p := ⟨Z, 3, none⟩) (fun q => by dsimp only at q; omega) (.int .u32 0)
            have g0 := B4.cell 0
            have g1 := B4.cell 1
            have g2 := B4.cell 2
            have g3 := B4.cell 3
            have R2 := HR.out _ _ ⟨rfl, M4⟩
            clear B4 M4 hc hf
            generalize World.setCell _ _ _ = W9 at *
            exact bodyPost_ret (v := .tuple #[.agg #[.int .i64 0, .int .i64 0, .int .i64 0, .int .u32 0], .bool false]) (by simp [results, Tryd.results42, go_sem, g0, g1, g2, g3]) rfl R2
        · rw [pLine_hex (d := d) (by rw [HW.out]; rfl) hv] at HR
          go_wp2_with fail
          refine wp_region_held_drew (S := (fun w' => w'.cell? ⟨g, 3, none⟩ = some (.string ⟨d.toArray⟩))) (by kernel_rfl) (by (try dsimp only); first | exact hcd2 | exact hcd3 | assumption) (fun hHeld => ?_)
          refine wpAnyH_take (i := 0) (v := ?_) rfl (by kernel_rfl) (by kernel_rfl) (by kernel_rfl) (fun _ _ _ h => h) (Or.inl ⟨by rfl, ?_⟩) (by assumption) ?_
          rotate_left
          · intro w hSw
            try dsimp only at hSw
            go_simp
            try with_reducible rfl
          try simp only [List.getElem_toArray, List.getElem_cons_succ, List.getElem_cons_zero, Act.put, List.setIfInBounds_toArray, List.set_cons_zero, List.set_cons_succ]
          refine wpAnyH_take (i := 1) (v := ?_) rfl (by kernel_rfl) (by kernel_rfl) (by kernel_rfl) (fun _ _ _ h => h) (Or.inl ⟨by rfl, ?_⟩) (by assumption) ?_
          rotate_left
          · intro w hSw
            try dsimp only at hSw
            go_simp
            try with_reducible rfl
          try simp only [List.getElem_toArray, List.getElem_cons_succ, List.getElem_cons_zero, Act.put, List.setIfInBounds_toArray, List.set_cons_zero, List.set_cons_succ]
          refine wpAnyH_take (i := 2) (v := ?_) rfl (by kernel_rfl) (by kernel_rfl) (by kernel_rfl) (fun _ _ _ h => h) (Or.inl ⟨by rfl, ?_⟩) (by assumption) ?_
          rotate_left
          · intro w hSw
            try dsimp only at hSw
            go_simp
            try with_reducible rfl
          try simp only [List.getElem_toArray, List.getElem_cons_succ, List.getElem_cons_zero, Act.put, List.setIfInBounds_toArray, List.set_cons_zero, List.set_cons_succ]
          refine wpAnyH_take (i := 3) (v := undef) rfl (by kernel_rfl) (by kernel_rfl) (by kernel_rfl) (fun _ _ _ h => h) (Or.inr ⟨by rfl, rfl⟩) (by assumption) ?_
          try simp only [List.getElem_toArray, List.getElem_cons_succ, List.getElem_cons_zero, Act.put, List.setIfInBounds_toArray, List.set_cons_zero, List.set_cons_succ]
          refine wpAnyH_take (i := 4) (v := undef) rfl (by kernel_rfl) (by kernel_rfl) (by kernel_rfl) (fun _ _ _ h => h) (Or.inr ⟨by rfl, rfl⟩) (by assumption) ?_
          try simp only [List.getElem_toArray, List.getElem_cons_succ, List.getElem_cons_zero, Act.put, List.setIfInBounds_toArray, List.set_cons_zero, List.set_cons_succ]
          refine wpAnyH_take (i := 5) (v := undef) rfl (by kernel_rfl) (by kernel_rfl) (by kernel_rfl) (fun _ _ _ h => h) (Or.inr ⟨by rfl, rfl⟩) (by assumption) ?_
          try simp only [List.getElem_toArray, List.getElem_cons_succ, List.getElem_cons_zero, Act.put, List.setIfInBounds_toArray, List.set_cons_zero, List.set_cons_succ]
          refine wpAnyH_take (i := 6) (v := undef) rfl (by kernel_rfl) (by kernel_rfl) (by kernel_rfl) (fun _ _ _ h => h) (Or.inr ⟨by rfl, rfl⟩) (by assumption) ?_
          try simp only [List.getElem_toArray, List.getElem_cons_succ, List.getElem_cons_zero, Act.put, List.setIfInBounds_toArray, List.set_cons_zero, List.set_cons_succ]
          refine wpAnyH_take (i := 7) (v := undef) rfl (by kernel_rfl) (by kernel_rfl) (by kernel_rfl) (fun _ _ _ h => h) (Or.inr ⟨by rfl, rfl⟩) (by assumption) ?_
          try simp only [List.getElem_toArray, List.getElem_cons_succ, List.getElem_cons_zero, Act.put, List.setIfInBounds_toArray, List.set_cons_zero, List.set_cons_succ]
          refine wpAnyH_take (i := 8) (v := undef) rfl (by kernel_rfl) (by kernel_rfl) (by kernel_rfl) (fun _ _ _ h => h) (Or.inr ⟨by rfl, rfl⟩) (by assumption) ?_
          try simp only [List.getElem_toArray, List.getElem_cons_succ, List.getElem_cons_zero, Act.put, List.setIfInBounds_toArray, List.set_cons_zero, List.set_cons_succ]
          refine wpAnyH_take (i := 9) (v := undef) rfl (by kernel_rfl) (by kernel_rfl) (by kernel_rfl) (fun _ _ _ h => h) (Or.inr ⟨by rfl, rfl⟩) (by assumption) ?_
          try simp only [List.getElem_toArray, List.getElem_cons_succ, List.getElem_cons_zero, Act.put, List.setIfInBounds_toArray, List.set_cons_zero, List.set_cons_succ]
          refine wpAnyH_take (i := 10) (v := ?_) rfl (by kernel_rfl) (by kernel_rfl) (by kernel_rfl) (fun _ _ _ h => h) (Or.inl ⟨by rfl, ?_⟩) (by assumption) ?_
          rotate_left
          · intro w hSw
            try dsimp only at hSw
            go_simp
            try with_reducible rfl
          try simp only [List.getElem_toArray, List.getElem_cons_succ, List.getElem_cons_zero, Act.put, List.setIfInBounds_toArray, List.set_cons_zero, List.set_cons_succ]
          refine wpAnyH_done (by kernel_rfl) ?_ _
          have J5 := Lib.hid (K1.out.same J3.out)
          have B5 := Lib.hid (B1.out.mod J3.out (fun q => q))
          have hc := B5.out.cell
          have hf := B5.out.free
          go_wp2
          have B4 := (((B5.out.set 0 (.int .i64 0)).set 1 (.int .i64 0)).set 2 (.int .i64 0)).set 3 (.int .u32 0) |>.drew
          have M4 := (((J5.out.setCell (p := ⟨Z, 0, none⟩) (fun q => by dsimp only at q; omega) (.int .i64 0)).setCell (p := ⟨Z, 1, none⟩) (fun q => by dsimp only at q; omega) (.int .i64 0)).setCell (p := ⟨Z, 2, none⟩) (fun q => by dsimp only at q; omega) (.int .i64 0)).setCell (p := ⟨Z, 3, none⟩) (fun q => by dsimp only at q; omega) (.int .u32 0) |>.drew
          have g0 := B4.cell 0
          have g1 := B4.cell 1
          have g2 := B4.cell 2
          have g3 := B4.cell 3
          have R2 := HR.out _ _ ⟨rfl, M4⟩
          clear B4 M4 hc hf
          generalize World.drew _ = W9 at *
          exact bodyPost_ret (v := .tuple #[.agg #[.int .i64 0, .int .i64 0, .int .i64 0, .int .u32 0], .bool false]) (by simp [results, Tryd.results42, go_sem, g0, g1, g2, g3]) rfl R2
  · rw [pLine_len hn4] at HR
    have hn4' : ¬ ((spl l).length : Int) = 4 := by omega
    have hn5 := bneT hn4'
    generalize (spl l).length = nn at *
    have hc := B1.out.cell
    have hf := B1.out.free
    go_wp2
    have J5 := K1
    have B5 := B1
    have B4 := (((B5.out.set 0 (.int .i64 0)).set 1 (.int .i64 0)).set 2 (.int .i64 0)).set 3 (.int .u32 0)
    have M4 := (((J5.out.setCell (p := ⟨Z, 0, none⟩) (fun q => by dsimp only at q; omega) (.int .i64 0)).setCell (p := ⟨Z, 1, none⟩) (fun q => by dsimp only at q; omega) (.int .i64 0)).setCell (p := ⟨Z, 2, none⟩) (fun q => by dsimp only at q; omega) (.int .i64 0)).setCell (p := ⟨Z, 3, none⟩) (fun q => by dsimp only at q; omega) (.int .u32 0)
    have g0 := B4.cell 0
    have g1 := B4.cell 1
    have g2 := B4.cell 2
    have g3 := B4.cell 3
    have R2 := HR.out _ _ ⟨rfl, M4⟩
    clear B4 M4 hc hf
    generalize World.setCell _ _ _ = W9 at *
    exact bodyPost_ret (v := .tuple #[.agg #[.int .i64 0, .int .i64 0, .int .i64 0, .int .u32 0], .bool false]) (by simp [results, Tryd.results42, go_sem, g0, g1, g2, g3]) rfl R2
end Go.Proofs.YthkcdoneghcglaaDoor
