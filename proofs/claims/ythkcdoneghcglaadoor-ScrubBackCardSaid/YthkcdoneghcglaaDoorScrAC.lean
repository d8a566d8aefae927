import Derived.Test.YthkcdoneghcglaaDoorScrAB
import Derived.Deep.RegionHeld3
set_option linter.unusedSimpArgs false
set_option linter.unusedVariables false
/- The document's Parse of sums: the walk. -/
namespace Go.Proofs.YthkcdoneghcglaaDoor
open Go Go.RowKit
theorem pars_go {f : List UInt8 → Option Sm} {k : Nat} {s a r : List UInt8} {L : List Sm} {o : Option (List Sm)} {x : Sm} (h : (pars f (k + 1) s).map (L ++ ·) = o) (hk : s.length ≤ k + 1) (hn : nl s = some (a, r)) (hf : f a = some x) : (pars f k r).map ((L ++ [x]) ++ ·) = o := by
  rw [pars_step f k hk hn hf, Option.map_map] at h
  rw [← h]; congr 1; funext z; simp
theorem owns_at {Z : Nat} {w w' : World} {base size n : Nat} {e : TypeId} {v : Value} {xs : List Value} (h : w.ownsRow base e size v n xs) (M : Mod (fun i => i = Z) w w') (hZ : ∀ k, v.ownBlock = some k → k ≠ Z) : w'.ownsRow base e size v n xs := by
  obtain ⟨hl, h0 | ⟨g, cap, cur, hv, hb, hh, r⟩⟩ := h
  · exact ⟨hl, .inl h0⟩
  · have hlt : g < w.heap.size := by
      rcases Nat.lt_or_ge g w.heap.size with q | q
      · exact q
      · rw [Array.getElem?_eq_none q] at hh; cases hh
    exact ⟨hl, .inr ⟨g, cap, cur, hv, hb, (M.block g hlt (fun q => hZ g (by rw [hv]; rfl) q)).trans hh, r⟩⟩
abbrev At (b : Nat) : Nat → Prop := fun i => i = b
set_option maxRecDepth 10000 in
set_option maxHeartbeats 16000000 in
theorem rparse_any (S : List UInt8) (hS : S.length ≤ 100000) (w : World) : Calls Tryd.prog 16 #[strV S] w fun e w' => PaR (refS S) e w' ∧ Same w w' := by
  refine opq fun R HR => ?_
  unfold refS at HR
  have hbs := bytes_size S
  obtain ⟨i0, hi, hz0, hz1, hz2⟩ := info_parts info65
  have HI0 := Lib.hid hi
  have HZ0 := Lib.hid hz0
  have HZ1 := Lib.hid hz1
  have HZ2 := Lib.hid hz2
  clear hi hz0 hz1 hz2
  unfold strV
  go_enter Tryd.func16, Tryd.ntmps16
  go_wp2_with fail
  go_loopw [6, 5, 4] (fun vi vf o wr => ∃ (i fr k : Nat) (L : List Sm), vi = .int .i64 (i : Int) ∧ vf = .int .i64 (fr : Int) ∧ i ≤ S.length ∧ fr ≤ i ∧ S.length ≤ k + fr ∧ L.length ≤ fr ∧ (∀ j, fr ≤ j → j < i → S[j]? ≠ some 10) ∧ (pars rLine k (S.drop fr)).map (L ++ ·) = pars rLine S.length S ∧ wr.ownsRow w.heap.size 65 4 o L.length (L.flatMap smC) ∧ Same w wr) (fun vi _ _ _ => S.length - (intOf vi).toNat)
  case atStart => exact ⟨0, 0, S.length, [], rfl, rfl, by omega, by omega, by omega, by simp, (fun j h1 h2 => by omega), by simp, empty_owns w _ _ _ (Nat.le_refl _), (Mod.refl _ _).alloc _⟩
  case round =>
    obtain ⟨i, fr, k, L, rfl, rfl, hi, hfr, hfk, hLf, hno, hp, hown, hM⟩ := hrel
    have J1 := Lib.hid hown
    have J2 := Lib.hid hM
    have HP := Lib.hid hp
    have HNo := Lib.hid hno
    have hsz : w.heap.size ≤ wr.heap.size := hM.size
    clear hown hM hp hno
    by_cases hlt : i < S.length
    · obtain ⟨x, hx⟩ : ∃ x, S[i]? = some x := ⟨_, List.getElem?_eq_getElem hlt⟩
      have kx := fun W => idx_any S i x hx (i : Int) rfl W
      by_cases hx10 : x = 10
      · subst hx10
        have d1 : (((10 : UInt8).toNat : Int) != 10) = false := rfl
        have HNl := Lib.hid (nl_drop S fr i hfr HNo.out hx)
        have EX := Lib.hid (seg_bytes S fr i)
        have hsl := seg_len S fr i
        have HDl : (S.drop fr).length ≤ k := by rw [List.length_drop]; omega
        have HPa := Lib.hid (refsplit_any (seg S fr i) (by omega) wr)
        have HSL := Lib.hid (spl_len (seg S fr i))
        generalize seg S fr i = ln at *
        clear hx HNo
        go_wp2_with fail
        rw [EX.out]
        refine HPa.out.mono ?_
        rintro e w2 ⟨v, rfl, hrow2, M2⟩
        have K2 := Lib.hid (J2.out.same M2)
        have O2 := Lib.hid (owns_same J1.out M2)
        have HRow := Lib.hid hrow2
        have hs2 := M2.size
        clear M2 hrow2 HPa J1 J2 kx
        by_cases h4 : (spl ln).length = 4
        · obtain ⟨a, b, c, d, hws⟩ : ∃ a b c d, spl ln = [a, b, c, d] := by
            match spl ln, h4 with
            | [a, b, c, d], _ => exact ⟨a, b, c, d, rfl⟩
          have HW := Lib.hid hws
          rw [hws] at HRow HSL
          obtain ⟨g2, cap2, rfl, hg2, hcap2, hrv⟩ := RowV.of_owns HRow.out (by simp)
          have HRV := Lib.hid hrv
          have r0 := hrv.cell 0 (by simp)
          have r1 := hrv.cell 1 (by simp)
          have r2 := hrv.cell 2 (by simp)
          have r3 := hrv.cell 3 (by simp)
          simp only [List.map_cons, List.map_nil, List.getD_cons_zero, List.getD_cons_succ] at r0 r1 r2 r3
          have hg2l := hrv.lt
          have hla : a.length ≤ 1000000 := by have := HSL.out a (by simp); omega
          have hlb : b.length ≤ 1000000 := by have := HSL.out b (by simp); omega
          have hlc : c.length ≤ 1000000 := by have := HSL.out c (by simp); omega
          have HNa := Lib.hid (rnum_any a hla)
          have HNb := Lib.hid (rnum_any b hlb)
          have HNc := Lib.hid (rnum_any c hlc)
          clear hws HRow hrv hla hlb hlc h4 HSL
          have hbd := bytes_size d
          unfold strV at r0 r1 r2 r3 HNa HNb HNc
          simp only [List.length_cons, List.length_nil] at hcap2 ⊢
          by_cases h8 : d.length = 8
          · have hb8 : ((d.length : Int) != 8) = false := by rw [h8]; rfl
            have hbd8 : (⟨d.toArray⟩ : ByteArray).size = 8 := by rw [bytes_size]; exact h8
            go_wp2_with fail
            have hz2 : w2.heap.size < (w2.alloc (.cells #[.int .i64 0, .int .i64 0, .int .i64 0, .int .u32 0] 65)).heap.size := by simp
            have M3 := Lib.hid ((Mod.refl (fun _ => False) w2).alloc (.cells #[.int .i64 0, .int .i64 0, .int .i64 0, .int .u32 0] 65))
            have OL := Lib.hid (fun g (hg : _ = some g) => (O2.out.lt g hg).2)
            have O3 := Lib.hid (O2.out.alloc (.cells #[.int .i64 0, .int .i64 0, .int .i64 0, .int .u32 0] 65))
            have B3 := Lib.hid (Blk.new w2 #[.int .i64 0, .int .i64 0, .int .i64 0, .int .u32 0] 65)
            generalize w2.alloc _ = W3 at *
            obtain ⟨Zx, hZx⟩ : ∃ Zx, w2.heap.size = Zx := ⟨_, rfl⟩
            have R3 := Lib.hid (HRV.out.mod M3.out (fun q => q))
            have r0 := R3.out.cell 0 (by simp)
            simp only [List.map_cons, List.map_nil, List.getD_cons_zero, List.getD_cons_succ] at r0
            unfold strV at r0
            refine (HNa.out W3).mono ?_
            rintro e w4 ⟨rfl, M4⟩
            have N4 := Lib.hid M4
            have R4 := Lib.hid (R3.out.mod M4 (fun q => q))
            have r1 := R4.out.cell 1 (by simp)
            simp only [List.map_cons, List.map_nil, List.getD_cons_zero, List.getD_cons_succ] at r1
            unfold strV at r1
            clear M4 R3 HNa r0
            go_wp2_with fail
            refine (HNb.out w4).mono ?_
            rintro e w5 ⟨rfl, M5⟩
            have N5 := Lib.hid (N4.out.same M5)
            have R5 := Lib.hid (R4.out.mod M5 (fun q => q))
            have r2 := R5.out.cell 2 (by simp)
            simp only [List.map_cons, List.map_nil, List.getD_cons_zero, List.getD_cons_succ] at r2
            unfold strV at r2
            clear M5 R4 N4 HNb r1
            go_wp2_with fail
            refine (HNc.out w5).mono ?_
            rintro e w6 ⟨rfl, M6⟩
            have N6 := Lib.hid (N5.out.same M6)
            have R6 := Lib.hid (R5.out.mod M6 (fun q => q))
            clear M6 R5 N5 HNc r2
            generalize hqa : rNum a = qa at *
            generalize hqb : rNum b = qb at *
            generalize hqc : rNum c = qc at *
            obtain ⟨n0, s0⟩ := qa
            obtain ⟨n1, s1⟩ := qb
            obtain ⟨n2, s2⟩ := qc
            have HQ := Lib.hid (And.intro hqa (And.intro hqb hqc))
            clear hqa hqb hqc
            have B6 := Lib.hid (B3.out.mod N6.out (fun q => q))
            have O6 := Lib.hid (owns_same O3.out N6.out)
            have S6 := Lib.hid (K2.out.same (M3.out.same N6.out))
            have hgz : g2 < Zx := by omega
            have hzz : w.heap.size ≤ Zx := by have := K2.out.size; omega
            rw [hZx] at B6
            have hZ6 : Zx < w6.heap.size := B6.out.lt
            clear O3 O2 B3 M3 N6
            have hc := B6.out.cell
            have hf := B6.out.free
            have B7 := Lib.hid (((B6.out.set 0 (.int .i64 n0)).set 1 (.int .i64 n1)).set 2 (.int .i64 n2))
            have M7 := Lib.hid ((((Mod.refl (At Zx) w6).setCell (p := ⟨Zx, 0, none⟩) (fun _ => rfl) (.int .i64 n0)).setCell (p := ⟨Zx, 1, none⟩) (fun _ => rfl) (.int .i64 n1)).setCell (p := ⟨Zx, 2, none⟩) (fun _ => rfl) (.int .i64 n2))
            go_wp2_with fail
            clear hc hf
            go_loopw [15] (fun vk wz => ∃ q : Nat, q ≤ 8 ∧ vk = .int .i64 (q : Int) ∧ (d.take q).all isHex = true ∧ Blk wz Zx #[.int .i64 n0, .int .i64 n1, .int .i64 n2, .int .u32 ((hexF 0 (d.take q) : Nat) : Int)] ∧ Mod (At Zx) w6 wz) (fun vk _ => 8 - (intOf vk).toNat)
            case atStart => exact ⟨0, by omega, rfl, rfl, B7.out, M7.out⟩
            case round =>
              obtain ⟨q, hq, rfl, hall, hB, hMz⟩ := hrel
              have B8 := Lib.hid hB
              have M8 := Lib.hid hMz
              have HAll := Lib.hid hall
              have R8 := Lib.hid (R6.out.mod hMz (fun e => by have : g2 = Zx := e; omega))
              have r3 := R8.out.cell 3 (by simp)
              simp only [List.map_cons, List.map_nil, List.getD_cons_zero, List.getD_cons_succ] at r3
              unfold strV at r3
              clear hB hMz hall
              by_cases hq8 : q < 8
              · obtain ⟨ch, hch⟩ : ∃ ch, d[q]? = some ch := ⟨_, List.getElem?_eq_getElem (by omega)⟩
                have kd := fun W => idx_any d q ch hch (q : Int) rfl W
                have HCh := Lib.hid hch
                clear hch
                go_wp2_with fail
                go_loopw [17, 16] (fun vj vd wy => ∃ j : Nat, j ≤ 16 ∧ vj = .int .i64 (j : Int) ∧ vd = .int .i64 ((dig ch j : Nat) : Int) ∧ Mod (At Zx) w6 wy ∧ Blk wy Zx #[.int .i64 n0, .int .i64 n1, .int .i64 n2, .int .u32 ((hexF 0 (d.take q) : Nat) : Int)]) (fun vj _ _ => 16 - (intOf vj).toNat)
                case atStart => exact ⟨0, by omega, rfl, by unfold dig; rw [if_neg (by omega)]; rfl, M8.out, B8.out⟩
                case round =>
                  obtain ⟨j, hj, rfl, rfl, hMy, hBy⟩ := hrel
                  have M9 := Lib.hid hMy
                  have B9 := Lib.hid hBy
                  have R9 := Lib.hid (R6.out.mod hMy (fun e => by have : g2 = Zx := e; omega))
                  have r3 := R9.out.cell 3 (by simp)
                  simp only [List.map_cons, List.map_nil, List.getD_cons_zero, List.getD_cons_succ] at r3
                  unfold strV at r3
                  clear hMy hBy
                  by_cases hj16 : j < 16
                  · have kidx := fun W => idx_any hexLi j (hexC j) (hexLi_at j hj16) (j : Int) rfl W
                    rw [show (⟨hexLi.toArray⟩ : ByteArray) = ⟨#[48, 49, 50, 51, 52, 53, 54, 55, 56, 57, 97, 98, 99, 100, 101, 102]⟩ from rfl] at kidx
                    go_wp2_with fail
                    refine wp_region_held_drew (S := (fun w' => w'.cell? ⟨g2, 3, none⟩ = some (.string ⟨d.toArray⟩))) (by kernel_rfl) (by (try dsimp only); first | exact r3 | assumption) (fun hHeld => ?_)
                    refine wpAnyH_take (i := 0) (v := ?_) rfl (by kernel_rfl) (by kernel_rfl) (by kernel_rfl) (fun _ _ _ h => h) (Or.inl ⟨by rfl, ?_⟩) (by assumption) ?_
                    rotate_left
                    · intro w hSw
                      try dsimp only at hSw
                      go_simp
                      try with_reducible rfl
                    try simp only [List.getElem_toArray, List.getElem_cons_succ, List.getElem_cons_zero, Act.put, List.setIfInBounds_toArray, List.set_cons_zero, List.set_cons_succ]
                    refine wpAnyH_take (i := 1) (v := ?_) rfl (by kernel_rfl) (by kernel_rfl) (by kernel_rfl) (fun _ _ _ h => h) (Or.inl ⟨by rfl, ?_⟩) (by assumption) ?_
                    rotate_left
                    · intro w hSw
                      try dsimp only at hSw
                      have kj := kidx w
                      go_simp
                      try with_reducible rfl
                    try simp only [List.getElem_toArray, List.getElem_cons_succ, List.getElem_cons_zero, Act.put, List.setIfInBounds_toArray, List.set_cons_zero, List.set_cons_succ]
                    refine wpAnyH_take (i := 2) (v := ?_) rfl (by kernel_rfl) (by kernel_rfl) (by kernel_rfl) (fun _ _ _ h => h) (Or.inl ⟨by rfl, ?_⟩) (by assumption) ?_
                    rotate_left
                    · intro w hSw
                      try dsimp only at hSw
                      go_simp
                      try with_reducible rfl
                    try simp only [List.getElem_toArray, List.getElem_cons_succ, List.getElem_cons_zero, Act.put, List.setIfInBounds_toArray, List.set_cons_zero, List.set_cons_succ]
                    refine wpAnyH_take (i := 3) (v := ?_) rfl (by kernel_rfl) (by kernel_rfl) (by kernel_rfl) (fun _ _ _ h => h) (Or.inl ⟨by rfl, ?_⟩) (by assumption) ?_
                    rotate_left
                    · intro w hSw
                      try dsimp only at hSw
                      go_simp
                      try with_reducible rfl
                    try simp only [List.getElem_toArray, List.getElem_cons_succ, List.getElem_cons_zero, Act.put, List.setIfInBounds_toArray, List.set_cons_zero, List.set_cons_succ]
                    refine wpAnyH_take (i := 4) (v := ?_) rfl (by kernel_rfl) (by kernel_rfl) (by kernel_rfl) (fun _ _ _ h => h) (Or.inl ⟨by rfl, ?_⟩) (by assumption) ?_
                    rotate_left
                    · intro w hSw
                      try dsimp only at hSw
                      go_simp
                      try with_reducible rfl
                    try simp only [List.getElem_toArray, List.getElem_cons_succ, List.getElem_cons_zero, Act.put, List.setIfInBounds_toArray, List.set_cons_zero, List.set_cons_succ]
                    refine wpAnyH_take (i := 5) (v := ?_) rfl (by kernel_rfl) (by kernel_rfl) (by kernel_rfl) (fun _ _ _ h => h) (Or.inl ⟨by rfl, ?_⟩) (by assumption) ?_
                    rotate_left
                    · intro w hSw
                      try dsimp only at hSw
                      go_simp
                      try with_reducible rfl
                    try simp only [List.getElem_toArray, List.getElem_cons_succ, List.getElem_cons_zero, Act.put, List.setIfInBounds_toArray, List.set_cons_zero, List.set_cons_succ]
                    refine wpAnyH_take (i := 6) (v := ?_) rfl (by kernel_rfl) (by kernel_rfl) (by kernel_rfl) (fun _ _ _ h => h) (Or.inl ⟨by rfl, ?_⟩) (by assumption) ?_
                    rotate_left
                    · intro w hSw
                      try dsimp only at hSw
                      have kq := kd w
                      go_simp
                      try with_reducible rfl
                    try simp only [List.getElem_toArray, List.getElem_cons_succ, List.getElem_cons_zero, Act.put, List.setIfInBounds_toArray, List.set_cons_zero, List.set_cons_succ]
                    refine wpAnyH_take (i := 7) (v := ?_) rfl (by kernel_rfl) (by kernel_rfl) (by kernel_rfl) (fun _ _ _ h => h) (Or.inl ⟨by rfl, ?_⟩) (by assumption) ?_
                    rotate_left
                    · intro w hSw
                      try dsimp only at hSw
                      go_simp
                      try with_reducible rfl
                    try simp only [List.getElem_toArray, List.getElem_cons_succ, List.getElem_cons_zero, Act.put, List.setIfInBounds_toArray, List.set_cons_zero, List.set_cons_succ]
                    refine wpAnyH_done (by kernel_rfl) ?_ _
                    by_cases hjc : hexC j = ch
                    · have hb : (((hexC j).toNat : Int) == (ch.toNat : Int)) = true := by rw [hjc]; simp
                      have HD := Lib.hid (dig_hit ch j hj16 hjc)
                      generalize (hexC j).toNat = hn at *
                      generalize ch.toNat = cn at *
                      go_wp2_with fail
                      go_roundw
                      case rel => exact ⟨j + 1, by omega, by go_num, by rw [HD.out], M9.out.drew, B9.out.drew⟩
                      case measure => simp [intOf]; omega
                    · have hb : (((hexC j).toNat : Int) == (ch.toNat : Int)) = false := by
                        rw [beq_eq_false_iff_ne]; intro e; exact hjc (UInt8.toNat.inj (by omega))
                      have HD := Lib.hid (dig_miss ch j hj16 hjc)
                      generalize (hexC j).toNat = hn at *
                      generalize ch.toNat = cn at *
                      go_wp2_with fail
                      go_roundw
                      case rel => exact ⟨j + 1, by omega, by go_num, by rw [HD.out], M9.out.drew, B9.out.drew⟩
                      case measure => simp [intOf]; omega
                  · obtain rfl : j = 16 := by omega
                    have hsm := M9.out.size
                    rcases dig_all ch with ⟨hx, hd16, hdl⟩ | ⟨hx, hd16⟩
                    · rw [hd16]
                      have HX := Lib.hid hx
                      have hbn : (((hexD ch : Nat) : Int) == 16) = false := by rw [beq_eq_false_iff_ne]; omega
                      have hF : hexF 0 (d.take (q + 1)) = hexF 0 (d.take q) * 16 + hexD ch := by rw [List.take_add_one, HCh.out]; exact hexF_snoc _ _ _
                      have hall' : (d.take (q + 1)).all isHex = true := by rw [List.take_add_one, HCh.out, List.all_append, HAll.out]; simp [hx]
                      have hbF := hexF_bd (d.take (q + 1)) 0 hall'
                      have hl9 : (d.take (q + 1)).length ≤ 8 := by rw [List.length_take]; omega
                      have hpw : 16 ^ (d.take (q + 1)).length ≤ 16 ^ 8 := Nat.pow_le_pow_right (by decide) hl9
                      have hlt32 : hexF 0 (d.take q) * 16 + hexD ch < 4294967296 := by rw [← hF]; omega
                      have HF := Lib.hid hF
                      have HA2 := Lib.hid hall'
                      have hc := B9.out.cell
                      have hf := B9.out.free
                      clear hF hall' hbF hl9 hpw hd16 hx
                      generalize hexF 0 (d.take q) = hv at *
                      generalize hexD ch = hdc at *
                      have hw1 : IntKind.u32.wrap ((hv : Int) * 16) = (hv : Int) * 16 := by unfold IntKind.wrap; simp [IntKind.signed, IntKind.bits]; omega
                      have hw2 : IntKind.u32.wrap (hdc : Int) = (hdc : Int) := by unfold IntKind.wrap; simp [IntKind.signed, IntKind.bits]; omega
                      have hw3 : IntKind.u32.wrap ((hv : Int) * 16 + (hdc : Int)) = (hv : Int) * 16 + (hdc : Int) := by unfold IntKind.wrap; simp [IntKind.signed, IntKind.bits]; omega
                      have B10 := Lib.hid (B9.out.set 3 (.int .u32 ((hv : Int) * 16 + (hdc : Int))))
                      have M10 := Lib.hid (M9.out.setCell (p := ⟨Zx, 3, none⟩) (fun _ => rfl) (.int .u32 ((hv : Int) * 16 + (hdc : Int))))
                      go_wp2_with fail
                      go_roundw
                      case rel => exact ⟨q + 1, by omega, by go_num, HA2.out, by rw [HF.out]; exact B10.out, M10.out⟩
                      case measure => simp [intOf]; omega
                    · rw [hd16]
                      have hV : hexV d = none := hexV_not (fun hg => by have := hexG_at hg HCh.out; rw [hx] at this; cases this)
                      rw [pars_none HP.out HDl HNl.out (rLine_hex HW.out hV)] at HR
                      have M11 := Lib.hid (S6.out.then_ M9.out (fun i hi e => by have : i = Zx := e; omega))
                      clear hd16 hx
                      go_wp2
                      exact HR.out _ _ ⟨⟨_, rfl⟩, M11.out⟩
              · obtain rfl : q = 8 := by omega
                have hdt : d.take 8 = d := List.take_of_length_le (by omega)
                rw [hdt] at B8 HAll
                have hV : hexV d = some (hexF 0 d) := by unfold hexV; rw [if_pos ⟨h8, HAll.out⟩]
                have HV := Lib.hid hV
                have M11 := Lib.hid (S6.out.then_ M8.out (fun i hi e => by have : i = Zx := e; omega))
                have O8 := Lib.hid (owns_at O6.out M8.out (fun g hg e => by have := OL.out g hg; omega))
                have hc := B8.out.cell
                have hsz8 := M8.out.size
                have hws := M11.out.size
                clear hV hdt
                generalize hexF 0 d = hv at *
                by_cases hs : s0 = true ∧ s1 = true ∧ s2 = true
                · obtain ⟨rfl, rfl, rfl⟩ := hs
                  obtain ⟨k, rfl⟩ : ∃ m, k = m + 1 := ⟨k - 1, by omega⟩
                  have hrl := rLine_all HW.out (by rw [HQ.out.1]) (by rw [HQ.out.2.1]) (by rw [HQ.out.2.2]) HV.out
                  rw [HQ.out.1, HQ.out.2.1, HQ.out.2.2] at hrl
                  have HPn := Lib.hid (pars_go HP.out HDl HNl.out hrl)
                  clear hrl
                  go_wp2_with (at_builtin; refine wpList_append_lies _ rfl (.tmp 110) (.tmp 112) 24 rfl w.heap.size 65 i0 (.agg #[.int .i64 0, .int .i64 0, .int .i64 0, .int .u32 0]) 4 32 Tryd.underlying24 HI0.out HZ0.out HZ1.out HZ2.out rfl (by decide) _ _ _ rfl (O8.out.alloc _) ⟨wr.heap.size, 0, none⟩ 1 1 (smC ⟨n0, n1, n2, hv⟩) rfl rfl (new4 wr ⟨n0, n1, n2, hv⟩ _) (fun u hu => (by simp at hu; rcases hu with rfl | rfl | rfl | rfl <;> rfl)) (by decide) (by unfold maxLen; omega) (by omega) (by simp only [World.size_alloc]; omega) (wr.heap.size + 1) (by simp) ?_; intro g cp w9 hown' hgrow hat hgl)
                  have P1 := Lib.hid (same_append M11.out O8.out hgrow)
                  have P2 := Lib.hid hown'
                  clear hown' hgrow hat
                  go_roundw
                  case rel => exact ⟨i + 1, i + 1, k, L ++ [⟨n0, n1, n2, hv⟩], by go_num, by go_num, by omega, by omega, by omega, by rw [List.length_append, List.length_singleton]; omega, (fun j h1 h2 => by omega), HPn.out, by rw [List.length_append, List.flatMap_append]; exact P2.out, P1.out⟩
                  case measure => simp [intOf]; omega
                · have hrl := rLine_no HW.out (by rw [HQ.out.1, HQ.out.2.1, HQ.out.2.2]; exact hs)
                  rw [pars_none HP.out HDl HNl.out hrl] at HR
                  clear hrl
                  cases s0 <;> cases s1 <;> cases s2
                  all_goals first
                  | exact absurd ⟨rfl, rfl, rfl⟩ hs
                  | (go_wp2; exact HR.out _ _ ⟨⟨_, rfl⟩, M11.out⟩)
          · have hnone := HP.out
            have hb8 : ((d.length : Int) != 8) = true := by simp; omega
            rw [pars_none HP.out HDl HNl.out (rLine_hex HW.out (by unfold hexV; exact if_neg (fun q => h8 q.1)))] at HR
            clear hnone
            go_wp2
            exact HR.out _ _ ⟨⟨_, rfl⟩, K2.out⟩
        · have hb4 : (((spl ln).length : Int) != 4) = true := by simp; omega
          rw [pars_none HP.out HDl HNl.out (rLine_len h4)] at HR
          have hown4 := HRow.out
          obtain ⟨a9, c9, hv9⟩ : ∃ a9 c9, v = .slice a9 (spl ln).length c9 := by
            rcases hown4.2 with ⟨hv, hz⟩ | ⟨g, cap, cur, hv, _⟩
            · exact ⟨none, 0, by rw [hv, hz]⟩
            · exact ⟨_, _, hv⟩
          subst hv9
          clear hown4 HRow h4
          generalize (spl ln).length = nn at *
          go_wp2
          exact HR.out _ _ ⟨⟨_, rfl⟩, K2.out⟩
      · have d1 : ((x.toNat : Int) != 10) = true := by
          have : x.toNat ≠ 10 := fun e => hx10 (UInt8.toNat.inj e)
          simp; omega
        have HNo2 := Lib.hid (show ∀ j, fr ≤ j → j < i + 1 → S[j]? ≠ some 10 by
          intro j h1 h2
          by_cases e : j = i
          · subst e; rw [hx]; intro q; exact hx10 (Option.some.inj q)
          · exact HNo.out j h1 (by omega))
        clear hx HNo hx10
        go_wp2_with fail
        go_roundw
        case rel => exact ⟨i + 1, fr, k, L, by go_num, rfl, by omega, by omega, by omega, hLf, HNo2.out, HP.out, J1.out, J2.out⟩
        case measure => simp [intOf]; omega
    · obtain rfl : i = S.length := by omega
      obtain ⟨a', c', rfl, hsms⟩ := sms_own J1.out
      have J3 := Lib.hid hsms
      have HG := Lib.hid (good_any a' c' L wr (by omega) hsms)
      clear hsms J1
      by_cases hfe : fr = S.length
      · rw [hfe, List.drop_length, pars_nil] at HP
        have hp := HP.out
        simp only [Option.map_some, List.append_nil] at hp
        rw [← hp] at HR
        have hbf : ((fr : Int) == (S.length : Int)) = true := by rw [hfe]; simp
        have hbf2 : (fr == S.length) = true := by rw [hfe]; simp
        clear hp HP hfe
        go_wp2_with fail
        refine HG.out.mono ?_
        rintro e w2 ⟨rfl, M2⟩
        have J4 := Lib.hid (J2.out.same M2)
        have J5 := Lib.hid (J3.out.same M2)
        clear M2 HG
        cases hg : goodL L with
        | true =>
          have hf : fin (some L) = some L := by unfold fin; dsimp only; rw [if_pos hg]
          rw [hf] at HR
          clear hg hf
          go_wp2
          exact HR.out _ _ ⟨⟨_, _, rfl, J5.out⟩, J4.out⟩
        | false =>
          have hf : fin (some L) = none := by unfold fin; dsimp only; rw [if_neg (by rw [hg]; decide)]
          rw [hf] at HR
          clear hg hf
          go_wp2
          exact HR.out _ _ ⟨⟨_, rfl⟩, J4.out⟩
      · have hnn := HP.out
        rw [pars_end rLine k (by intro e; have := congrArg List.length e; rw [List.length_drop] at this; simp at this; omega) (by rw [List.length_drop]; omega) (nl_drop_none S fr HNo.out)] at hnn
        simp only [Option.map_none] at hnn
        rw [← hnn] at HR
        have hbf : ((fr : Int) == (S.length : Int)) = false := by simp; omega
        have hbf2 : (fr == S.length) = false := by simp; omega
        clear hnn HP HNo hfe HG
        go_wp2
        exact HR.out _ _ ⟨⟨_, rfl⟩, J2.out⟩
end Go.Proofs.YthkcdoneghcglaaDoor
