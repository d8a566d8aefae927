import Derived.Test.YtdengmlidckkeaaGreatDoorOrdED
import Derived.Deep.RegionLaw
set_option linter.unusedSimpArgs false
set_option linter.unusedVariables false
namespace Go.Proofs.YtdengmlidckkeaaGreatDoor
open Go Go.RowKit
theorem info3 : (Tryz.prog.info? 3).map (fun i => (i.zero, i.size, i.bytes)) = some (some (.int .i64 0), 1, 8) := by kernel_rfl
theorem owns_mod2 {w w' : World} {S : Nat → Prop} {base size n : Nat} {e : TypeId} {v : Value} {xs : List Value} (h : w.ownsRow base e size v n xs) (M : Mod S w w') (hS : ∀ i, S i → i < base) : w'.ownsRow base e size v n xs := by
  obtain ⟨hl, h0 | ⟨g, cap, cur, hv, hb, hh, r⟩⟩ := h
  · exact ⟨hl, .inl h0⟩
  · have hlt : g < w.heap.size := by
      rcases Nat.lt_or_ge g w.heap.size with q | q
      · exact q
      · rw [Array.getElem?_eq_none q] at hh; cases hh
    exact ⟨hl, .inr ⟨g, cap, cur, hv, hb, (M.block g hlt (fun q => by have := hS g q; omega)).trans hh, r⟩⟩
set_option maxRecDepth 10000 in
set_option maxHeartbeats 8000000 in
theorem refparse_any (l : List UInt8) (hl : l.length ≤ 100000) (w : World) : Calls Tryz.prog 18 #[.string ⟨l.toArray⟩] w (RefA (refP (spl l)) w) := by
  refine opq fun R HR => ?_
  have HSP := Lib.hid (fun w => refsplit_any l hl w)
  obtain ⟨w0, r, hs⟩ := spl_ne l
  have hle : ∀ x ∈ w0 :: r, x.length ≤ 100000 := fun x hx => Nat.le_trans (spl_len l x (by rw [hs]; exact hx)) hl
  have HLE := Lib.hid hle
  have hrl : r.length ≤ 100000 := by
    have := spl_count l
    rw [hs, List.length_cons] at this
    omega
  rw [hs] at HSP HR
  obtain ⟨K, c0, c1, hkd, hK, hcn0, hcn1, hc0, hc1, hkind⟩ := kd_last w0
  have HKD := Lib.hid hkd
  have HCN0 := Lib.hid hcn0
  have HCN1 := Lib.hid hcn1
  have HKI := Lib.hid hkind
  clear hle hs hkd hcn0 hcn1 hkind
  obtain ⟨n, hn⟩ : ∃ n, r.length = n := ⟨_, rfl⟩
  have HN := Lib.hid hn
  rw [hn] at hrl
  clear hn
  obtain ⟨i0, hi, hz0, hz1, hz2⟩ := info_parts info9
  have I0 := Lib.hid hi
  have Z0 := Lib.hid hz0
  have Z1x := Lib.hid hz1
  have Z2 := Lib.hid hz2
  clear hi hz0 hz1 hz2
  obtain ⟨i3, hi, hz0, hz1, hz2⟩ := info_parts info3
  have J0 := Lib.hid hi
  have Y0 := Lib.hid hz0
  have Y1 := Lib.hid hz1
  have Y2 := Lib.hid hz2
  clear hi hz0 hz1 hz2
  go_enter Tryz.func18, Tryz.ntmps18
  go_wp2_with fail
  have S0 := Lib.hid ((Mod.refl (fun _ => False) w).alloc (.cells #[.int .i64 0, .slice none 0 0, .slice none 0 0] 32))
  have BA := Lib.hid (Blk.new w #[.int .i64 0, .slice none 0 0, .slice none 0 0] 32)
  generalize w.alloc _ = W at *
  generalize hZ : w.heap.size = Z at *
  refine (HSP.out _).mono ?_
  rintro e w1 ⟨v, rfl, hown, M1⟩
  rw [List.length_cons, HN.out] at hown
  obtain ⟨g, cap, rfl, hg0, hgc, hrow⟩ := RowV.of_owns hown (by omega)
  have hcl : ∀ i x, (w0 :: r)[i]? = some x → w1.cell? ⟨g, i, none⟩ = some (strV x) := by
    intro i x hx
    have hi : i < (w0 :: r).length := (List.getElem?_eq_some_iff.1 hx).1
    rw [List.length_cons, HN.out] at hi
    refine (hrow.cell i (by omega)).trans ?_
    rw [List.getD_eq_getElem?_getD, List.getElem?_map, hx]; rfl
  have HG := Lib.hid hcl
  have hgl := hrow.lt
  have K1 := Lib.hid (S0.out.same M1)
  have BA1 := Lib.hid (BA.out.mod M1 (fun q => q))
  have hZw : Z < w1.heap.size := BA1.out.lt
  clear hown hrow hcl M1 S0 BA HSP hg0
  go_wp2_with fail
  have S2 := Lib.hid (K1.out.alloc (.cells #[.int .i64 0, .slice none 0 0, .slice none 0 0] 32))
  have BB := Lib.hid (Blk.new w1 #[.int .i64 0, .slice none 0 0, .slice none 0 0] 32)
  have BA2 := Lib.hid (BA1.out.alloc (.cells #[.int .i64 0, .slice none 0 0, .slice none 0 0] 32))
  have M2 : Same w1 (w1.alloc (.cells #[.int .i64 0, .slice none 0 0, .slice none 0 0] 32)) := (Mod.refl _ _).alloc _
  have HG2 := Lib.hid (fun i x (h : (w0 :: r)[i]? = some x) => (M2.cell hgl (fun q => q) i).trans (HG.out i x h))
  have hg2 := Nat.lt_of_lt_of_le hgl M2.size
  clear M2 K1 BA1 HG
  generalize w1.alloc _ = W2 at *
  generalize hZ1 : w1.heap.size = Z1 at *
  go_loopw [6] (fun kk wr => ∃ j : Nat, 1 ≤ j ∧ j ≤ 16 ∧ kk = .int .i64 (j : Int) ∧ Blk wr Z1 #[.int .i64 (kd w0 j), .slice none 0 0, .slice none 0 0] ∧ Mod (fun i => i = Z1) W2 wr) (fun kk _ => 16 - (intOf kk).toNat)
  case atStart => exact ⟨1, by omega, by omega, rfl, by rw [kd_one]; exact BB.out, Mod.refl _ _⟩
  case round =>
    obtain ⟨j, hj1, hj2, rfl, hB, hM⟩ := hrel
    have HB := Lib.hid hB
    have L1 := Lib.hid hM
    have hgr : g < wr.heap.size := Nat.lt_of_lt_of_le hg2 hM.size
    have hc0 : wr.cell? ⟨g, 0, none⟩ = some (.string ⟨w0.toArray⟩) := (hM.cell hg2 (by omega) 0).trans (HG2.out 0 w0 rfl)
    clear hB hM
    by_cases hlt : j < 16
    · obtain ⟨k, hkj⟩ : ∃ k, j = k + 1 := ⟨j - 1, by omega⟩
      have WG := Lib.hid (show words16[j]? = some (wordL k) by rw [hkj]; exact words16_get k (by omega))
      by_cases hw : wordL k = w0
      · have EK := Lib.hid (show kd w0 (j + 1) = (j : Int) by rw [hkj]; exact kd_hit w0 k (by omega) hw)
        have hq : (wordL k == w0) = true := by rw [hw]; simp
        clear hw hkj
        generalize wordL k = s at *
        go_wp2_with fail
        go_region_with (first | (go_at_call 12; refine (words16_any _).mono ?_; rintro e w5 ⟨gw, rfl, hB5, M5⟩; have A5 := Lib.hid ((Mod.refl (fun _ => False) wr).drew.same M5); have hc5 := (A5.out.cell hgr (fun q => q) 0).trans hc0; have hg5 : w5.cell? ⟨gw, j, none⟩ = some (strV s) := (hB5.cell j).trans (by rw [List.getElem?_toArray, List.getElem?_map, WG.out]; rfl); unfold strV at hg5; have B5 := Lib.hid (HB.out.mod A5.out (fun q => q)); have hb5 := B5.out.cell; have hf5 := B5.out.free; have hl5 := B5.out.lt; clear M5 hB5))
        all_goals
          go_wp2_with fail
          go_roundw
          case rel => exact ⟨j + 1, by omega, by omega, by go_num, by rw [EK.out]; exact B5.out.set 0 (.int .i64 (j : Int)), (L1.out.same A5.out).setCell (fun _ => rfl) _⟩
          case measure => simp [intOf]; omega
      · have EK := Lib.hid (show kd w0 (j + 1) = kd w0 j by rw [hkj]; exact kd_miss w0 k hw)
        have hq : (wordL k == w0) = false := by simpa using hw
        clear hw hkj
        generalize wordL k = s at *
        go_wp2_with fail
        go_region_with (first | (go_at_call 12; refine (words16_any _).mono ?_; rintro e w5 ⟨gw, rfl, hB5, M5⟩; have A5 := Lib.hid ((Mod.refl (fun _ => False) wr).drew.same M5); have hc5 := (A5.out.cell hgr (fun q => q) 0).trans hc0; have hg5 : w5.cell? ⟨gw, j, none⟩ = some (strV s) := (hB5.cell j).trans (by rw [List.getElem?_toArray, List.getElem?_map, WG.out]; rfl); unfold strV at hg5; have B5 := Lib.hid (HB.out.mod A5.out (fun q => q)); have hb5 := B5.out.cell; have hf5 := B5.out.free; have hl5 := B5.out.lt; clear M5 hB5))
        all_goals
          go_wp2_with fail
          go_roundw
          case rel => exact ⟨j + 1, by omega, by omega, by go_num, by rw [EK.out]; exact B5.out, L1.out.same A5.out⟩
          case measure => simp [intOf]; omega
    · obtain rfl : j = 16 := by omega
      clear hc0
      rw [HKD.out] at HB
      have hb0 := HB.out.cell
      have hl0 := HB.out.lt
      have b1 : (0 : Int) ≤ (K : Int) := by omega
      have b2 : (K : Int) < 16 := by omega
      go_wp2_with fail
      go_cut [7] (fun v wx => ∃ h, v = .pointer (some ⟨h, 0, none⟩) ∧ wr.heap.size ≤ h ∧ Blk wx h #[.int .i64 (c0 : Int), .int .i64 (c1 : Int)] ∧ Same wr wx)
      case first => as_aux_lemma =>
        go_region_law (first
          | (go_simp; go_at_call 44; refine (counts_any _).mono ?_; rintro e w5 ⟨gw, rfl, hB5, M5⟩; have A5 := Lib.hid ((Mod.refl (fun _ => False) wr).drew.same M5); have B5 := Lib.hid (HB.out.mod A5.out (fun q => q)); have hb5 := B5.out.cell; have hl5 := B5.out.lt; have hbA := fun o => ((((Mod.refl (fun _ => False) w5).alloc o).cell hl5 (fun q => q) 0).trans (hb5 0)); have BG5 := Lib.hid hB5; have hg5 : w5.cell? ⟨gw, K * 2, none⟩ = some (.int .i64 (c0 : Int)) := (hB5.cell (K * 2)).trans (by rw [Nat.mul_comm K 2, List.getElem?_toArray, List.getElem?_map, HCN0.out]; rfl); have hh5 : w5.cell? ⟨gw, K * 2 + 1, none⟩ = some (.int .i64 (c1 : Int)) := (hB5.cell (K * 2 + 1)).trans (by rw [Nat.mul_comm K 2, List.getElem?_toArray, List.getElem?_map, HCN1.out]; rfl); have hgA := fun o => (((Mod.refl (fun _ => False) w5).alloc o).cell hB5.lt (fun q => q) (K * 2)).trans hg5; have hhA := fun o => (((Mod.refl (fun _ => False) w5).alloc o).cell hB5.lt (fun q => q) (K * 2 + 1)).trans hh5; clear M5 hB5)
          | (go_simp; go_at_call 44; refine (counts_any _).mono ?_; rintro e w5 ⟨gw, rfl, hB5, M5⟩; have A5 := Lib.hid (((Mod.refl (fun _ => False) wr).drew.alloc _).same M5); have BC5 := Lib.hid (show Blk w5 wr.heap.size #[.int .i64 0, .int .i64 0] from (Blk.new wr.drew #[.int .i64 0, .int .i64 0] 107).mod M5 (fun q => q)); have hcC := BC5.out.cell; have hfC := BC5.out.free; have hlC := BC5.out.lt; have B5 := Lib.hid (HB.out.mod A5.out (fun q => q)); have hb5 := B5.out.cell; have hl5 := B5.out.lt; have hbA := fun o => ((((Mod.refl (fun _ => False) w5).alloc o).cell hl5 (fun q => q) 0).trans (hb5 0)); have BG5 := Lib.hid hB5; have hg5 : w5.cell? ⟨gw, K * 2, none⟩ = some (.int .i64 (c0 : Int)) := (hB5.cell (K * 2)).trans (by rw [Nat.mul_comm K 2, List.getElem?_toArray, List.getElem?_map, HCN0.out]; rfl); have hh5 : w5.cell? ⟨gw, K * 2 + 1, none⟩ = some (.int .i64 (c1 : Int)) := (hB5.cell (K * 2 + 1)).trans (by rw [Nat.mul_comm K 2, List.getElem?_toArray, List.getElem?_map, HCN1.out]; rfl); have hgA := fun o => (((Mod.refl (fun _ => False) w5).alloc o).cell hB5.lt (fun q => q) (K * 2)).trans hg5; have hhA := fun o => (((Mod.refl (fun _ => False) w5).alloc o).cell hB5.lt (fun q => q) (K * 2 + 1)).trans hh5; clear M5 hB5))
        all_goals
          go_wp2_with go_in
          go_meet
          first
          | exact ⟨_, rfl, A5.out.size, Blk.new _ _ _, A5.out.alloc _⟩
          | exact ⟨_, rfl, Nat.le_refl _, (BC5.out.set 0 (.int .i64 (c0 : Int))).set 1 (.int .i64 (c1 : Int)), (A5.out.setCell (p := ⟨wr.heap.size, 0, none⟩) (fun q => absurd q (Nat.lt_irrefl _)) _).setCell (p := ⟨wr.heap.size, 1, none⟩) (fun q => absurd q (Nat.lt_irrefl _)) _⟩
      case rest =>
        obtain ⟨h, rfl, hh, hBC, hM⟩ := hcut
        have L2 := Lib.hid (L1.out.same hM)
        have HB2 := Lib.hid (HB.out.mod hM (fun q => q))
        have CC := Lib.hid hBC
        have hbb := HB2.out.cell
        have hcc := CC.out.cell
        have hhc := CC.out.lt
        have hzh : h ≠ Z1 := by omega
        have hzc := HB2.out.lt
        have hgc2 : g < wc.heap.size := Nat.lt_of_lt_of_le hgr hM.size
        clear hb0 hBC hM L1 HB hl0 b1 b2 HKD HCN0 HCN1
        rcases HKI.out with ⟨hkn, hK0⟩ | ⟨k, hks, hk15, hKk, e0, e1⟩
        · have q1 : ((K : Int) == 0) = true := by rw [hK0]; rfl
          have hRF : refP (w0 :: r) = none := by
            unfold refP
            dsimp only
            rw [hkn]
          rw [hRF] at HR
          unfold RefA at HR
          dsimp only at HR
          clear hRF hkn hK0 HKI
          have RB := (BA2.out.mod L2.out (by omega))
          have rbc := RB.cell
          have rbf := RB.free
          have rbl := RB.lt
          go_wp2_with fail
          have M5 := fun (x0 x1 x2 : Value) => (((Mod.refl (fun i => i = Z) wc).setCell (p := ⟨Z, 0, none⟩) (fun _ => rfl) x0).setCell (p := ⟨Z, 1, none⟩) (fun _ => rfl) x1).setCell (p := ⟨Z, 2, none⟩) (fun _ => rfl) x2
          have BF := ((RB.set 0 (.int .i64 0)).set 1 (.slice none 0 0)).set 2 (.slice none 0 0)
          have g0 := BF.at_ (i := 0) (.int .i64 0) rfl
          have g1 := BF.at_ (i := 1) (.slice none 0 0) rfl
          have g2 := BF.at_ (i := 2) (.slice none 0 0) rfl
          have N5 := M5 (.int .i64 0) (.slice none 0 0) (.slice none 0 0)
          clear rbc rbf BF M5
          generalize ((wc.setCell ⟨Z, 0, none⟩ (.int .i64 0)).setCell ⟨Z, 1, none⟩ (.slice none 0 0)).setCell ⟨Z, 2, none⟩ (.slice none 0 0) = wF at *
          exact bodyPost_ret (v := .tuple #[.agg #[.int .i64 0, .slice none 0 0, .slice none 0 0], .bool false]) (by simp [results, Tryz.results18, go_sem, g0, g1, g2]) rfl (HR.out _ _ ⟨rfl, (S2.out.then_ L2.out (fun i hi e => by have : i = Z1 := e; omega)).then_ N5 (fun i hi e => by have : i = Z := e; omega)⟩)
        · have q1 : ((K : Int) == 0) = false := by simp; omega
          have HKS := Lib.hid hks
          have HKk := Lib.hid hKk
          have HE0 := Lib.hid e0
          have HE1 := Lib.hid e1
          have hno : okW k r = false → refP (w0 :: r) = none := by
            intro hok
            unfold refP
            dsimp only
            rw [hks]
            dsimp only
            rw [hok]; rfl
          have HNO := Lib.hid hno
          have hys : okW k r = true → refP (w0 :: r) = some (refW k r) := by
            intro hok
            unfold refP
            dsimp only
            rw [hks]
            dsimp only
            rw [hok]; rfl
          have HYS := Lib.hid hys
          clear hno hys hks hKk e0 e1 HKI
          by_cases hlen : n = c0 + c1
          · have q2 : (((n : Int) + 1) != 1 + (c0 : Int) + (c1 : Int)) = false := by rw [hlen]; simp; omega
            have HLN := Lib.hid hlen
            clear hlen
            go_wp2_with fail
            clear q1 q2
            go_loopw [3, 8, 9, 10, 11, 12] (fun b3 i _ _ _ _ wr => ∃ (j : Nat) (v1 v2 : Value), j ≤ n ∧ b3 = .bool false ∧ i = .int .i64 ((j : Int) + 1) ∧ Blk wr Z1 #[.int .i64 (K : Int), v1, v2] ∧ wr.ownsRow wc.heap.size 3 1 v1 (nA c0 r j).length (numsV (nA c0 r j)) ∧ wr.ownsRow wc.heap.size 9 1 v2 (dA c0 r j).length (datsV (dA c0 r j)) ∧ (∀ x ∈ nA c0 r j, (num x).2 = true) ∧ (∀ x ∈ dA c0 r j, datO x = true) ∧ Mod (fun i => i = Z1) wc wr) (fun _ i _ _ _ _ _ => n + 1 - (intOf i).toNat)
            case atStart =>
              have e := nA_zero c0 r
              refine ⟨0, .slice none 0 0, .slice none 0 0, by omega, rfl, rfl, HB2.out, ?_, ?_, ?_, ?_, Mod.refl _ _⟩
              · rw [e.1]; exact World.ownsRow_nil _ _ _ _
              · rw [e.2]; exact World.ownsRow_nil _ _ _ _
              · rw [e.1]; intro x hx; cases hx
              · rw [e.2]; intro x hx; cases hx
            case round =>
              obtain ⟨j, v1, v2, hj, rfl, rfl, hB, ho1, ho2, hal1, hal2, hM⟩ := hrel
              have BX := Lib.hid hB
              have O1 := Lib.hid ho1
              have O2 := Lib.hid ho2
              have AL1 := Lib.hid hal1
              have AL2 := Lib.hid hal2
              have MX := Lib.hid hM
              have hwr : wc.heap.size ≤ wr.heap.size := hM.size
              clear hB ho1 ho2 hal1 hal2 hM hbb
              by_cases hlt : j < n
              · obtain ⟨x, hx⟩ : ∃ x, r[j]? = some x := ⟨_, List.getElem?_eq_getElem (by rw [HN.out]; exact hlt)⟩
                have hcx : wr.cell? ⟨g, j + 1, none⟩ = some (.string ⟨x.toArray⟩) := (MX.out.cell hgc2 (by omega) (j + 1)).trans ((L2.out.cell hg2 (by omega) (j + 1)).trans (HG2.out (j + 1) x (by rw [List.getElem?_cons_succ]; exact hx)))
                have hcw := (CC.out.mod MX.out (fun e => hzh e)).cell
                have hxl : x.length ≤ 100000 := HLE.out x (List.mem_cons_of_mem _ (List.mem_of_getElem? hx))
                have HX := Lib.hid hx
                have b1 : (0 : Int) ≤ (j : Int) + 1 := by omega
                have b3 : ((j : Int) + 1).toNat = j + 1 := by omega
                clear hx hcc
                by_cases hjc : j < c0
                · have d1 : decide ((j : Int) + 1 ≤ (c0 : Int)) = true := decide_eq_true (by omega)
                  have HC := Lib.hid (show ∀ w, Calls Tryz.prog 45 #[.string ⟨x.toArray⟩] w fun e w' => e = .returned (.tuple #[.int .i64 (num x).1, .bool (num x).2]) ∧ Same w w' from fun w => by
                    have := refnum_any x hxl w
                    rw [← number_same] at this
                    exact this)
                  have HLO := Lib.hid (nA_lo c0 r j x HX.out hjc)
                  have HJC := Lib.hid hjc
                  have SN := Lib.hid (numsV_snoc (nA c0 r j) x)
                  have HL3 := Lib.hid (show (nA c0 r j).length ≤ 100000 by have := (nA_len c0 r j).1; omega)
                  clear hjc hxl
                  cases his : (num x).2 with
                  | false =>
                    have hok : okW k r = false := okW_num HX.out (by have := HJC.out; have := HE0.out; omega) his
                    rw [HNO.out hok] at HR
                    unfold RefA at HR
                    dsimp only at HR
                    rw [his] at HC
                    clear hok his
                    go_wp2_with fail
                    refine (HC.out _).mono ?_
                    rintro e w6 ⟨rfl, M6⟩
                    have MX6 := Lib.hid (MX.out.same M6)
                    clear M6 hcx hcw
                    have RB := ((BA2.out.mod L2.out (by omega)).mod MX6.out (by omega))
                    have rbc := RB.cell
                    have rbf := RB.free
                    have rbl := RB.lt
                    go_wp2_with fail
                    have M5 := fun (x0 x1 x2 : Value) => (((Mod.refl (fun i => i = Z) w6).setCell (p := ⟨Z, 0, none⟩) (fun _ => rfl) x0).setCell (p := ⟨Z, 1, none⟩) (fun _ => rfl) x1).setCell (p := ⟨Z, 2, none⟩) (fun _ => rfl) x2
                    have BF := ((RB.set 0 (.int .i64 0)).set 1 (.slice none 0 0)).set 2 (.slice none 0 0)
                    have g0 := BF.at_ (i := 0) (.int .i64 0) rfl
                    have g1 := BF.at_ (i := 1) (.slice none 0 0) rfl
                    have g2 := BF.at_ (i := 2) (.slice none 0 0) rfl
                    have N5 := M5 (.int .i64 0) (.slice none 0 0) (.slice none 0 0)
                    clear rbc rbf BF M5
                    generalize ((w6.setCell ⟨Z, 0, none⟩ (.int .i64 0)).setCell ⟨Z, 1, none⟩ (.slice none 0 0)).setCell ⟨Z, 2, none⟩ (.slice none 0 0) = wF at *
                    exact bodyPost_ret (v := .tuple #[.agg #[.int .i64 0, .slice none 0 0, .slice none 0 0], .bool false]) (by simp [results, Tryz.results18, go_sem, g0, g1, g2]) rfl (HR.out _ _ ⟨rfl, ((S2.out.then_ L2.out (fun i hi e => by have : i = Z1 := e; omega)).then_ MX6.out (fun i hi e => by have : i = Z1 := e; omega)).then_ N5 (fun i hi e => by have : i = Z := e; omega)⟩)
                  | true =>
                    have HIS := Lib.hid his
                    rw [his] at HC
                    clear his
                    generalize (num x).1 = z at *
                    go_wp2_with fail
                    refine (HC.out _).mono ?_
                    rintro e w6 ⟨rfl, M6⟩
                    have MX6 := Lib.hid (MX.out.same M6)
                    have BX6 := Lib.hid (BX.out.mod M6 (fun q => q))
                    have O16 := Lib.hid (owns_same O1.out M6)
                    have O26 := Lib.hid (owns_same O2.out M6)
                    have hbc := BX6.out.cell
                    have hl3 := HL3.out
                    have hw6 : wc.heap.size ≤ w6.heap.size := MX6.out.size
                    clear M6 hcx hcw MX BX O1 O2
                    go_wp2_with (at_builtin; refine wpList_append_own _ rfl (.tmp 72) (.tmp 74) 27 rfl wc.heap.size 3 i3 (.int .i64 0) 1 8 Tryz.underlying27 J0.out Y0.out Y1.out Y2.out rfl (by decide) _ _ _ rfl (O16.out.alloc _) ⟨w6.heap.size, 0, none⟩ 1 1 [.int .i64 z] rfl rfl (one_new _ _ _) (fun u hu => (by simp at hu; subst hu; rfl)) (by unfold maxLen; omega) (by omega) (by simp only [World.size_alloc]; omega) ?_; intro v' w7 hown' hgrow _; obtain ⟨av, cv, rfl⟩ := owns_slice hown'; have P1 := Lib.hid (same_append MX6.out O16.out hgrow); have P2 := Lib.hid hown'; have P3 := Lib.hid (blk_append BX6.out hzc O16.out hgrow); have P4 := Lib.hid ((O26.out.alloc _).kept hgrow (own_ne O16.out O26.out).1); have hbc7 := P3.out.cell; have hbf7 := P3.out.free; clear hown' hgrow hbc)
                    have M8 := Lib.hid ((Mod.refl (fun i => i = Z1) w7).setCell (p := ⟨Z1, 1, none⟩) (fun _ => rfl) (.slice av ((nA c0 r j).length + 1) cv))
                    have B8 := Lib.hid (P3.out.set 1 (.slice av ((nA c0 r j).length + 1) cv))
                    have Q2 := Lib.hid (owns_mod2 P2.out M8.out (fun i e => by have : i = Z1 := e; omega))
                    have Q4 := Lib.hid (owns_mod2 P4.out M8.out (fun i e => by have : i = Z1 := e; omega))
                    have Q1 := Lib.hid (P1.out.trans M8.out)
                    clear hbc7 hbf7 P1 P2 P3 P4 M8
                    refine ⟨?_, ?meas1⟩
                    (repeat apply Exists.intro)
                    refine ⟨?rel1, rfl⟩
                    case rel1 =>
                      refine ⟨j + 1, (.slice av ((nA c0 r j).length + 1) cv), v2, by omega, rfl, by go_num, B8.out, ?_, ?_, ?_, ?_, Q1.out⟩
                      · rw [HLO.out.1, ← SN.out, List.length_append, List.length_singleton]; exact Q2.out
                      · rw [HLO.out.2]; exact Q4.out
                      · rw [HLO.out.1]
                        intro y hy
                        rcases List.mem_append.1 hy with hy | hy
                        · exact AL1.out y hy
                        · rw [List.mem_singleton.1 hy]; exact HIS.out
                      · rw [HLO.out.2]; exact AL2.out
                    case meas1 => simp [intOf]; omega
                · have d1 : decide ((j : Int) + 1 ≤ (c0 : Int)) = false := decide_eq_false (by omega)
                  have HC := Lib.hid (fun w => refbytes_any x hxl w)
                  have HHI := Lib.hid (nA_hi c0 r j x HX.out (by omega))
                  have HJC := Lib.hid hjc
                  have SN := Lib.hid (datsV_snoc (dA c0 r j) x)
                  have HL3 := Lib.hid (show (dA c0 r j).length ≤ 100000 by have := (nA_len c0 r j).2; omega)
                  have HDO := Lib.hid (show datO x = ((refBytes x).2 && decide ((refBytes x).1.length ≤ 512)) from rfl)
                  have hSZ := bytes_size (refBytes x).1
                  clear hjc hxl
                  by_cases hok2 : datO x = true
                  · have hb2 : (refBytes x).2 = true := by
                      rw [HDO.out, Bool.and_eq_true] at hok2
                      exact hok2.1
                    have hb3 : (refBytes x).1.length ≤ 512 := by
                      rw [HDO.out, Bool.and_eq_true] at hok2
                      exact of_decide_eq_true hok2.2
                    have d5 : decide ((512 : Int) < ((refBytes x).1.length : Int)) = false := decide_eq_false (by omega)
                    have HIS := Lib.hid hok2
                    rw [hb2] at HC
                    clear hok2 hb2 hb3 HDO
                    have SN2 : datsV (dA c0 r j) ++ [.string ⟨(refBytes x).1.toArray⟩] = datsV (dA c0 r j ++ [x]) := SN.out
                    have SN := Lib.hid SN2
                    clear SN2
                    generalize (refBytes x).1 = z at *
                    go_wp2_with fail
                    refine (HC.out _).mono ?_
                    rintro e w6 ⟨rfl, M6⟩
                    have MX6 := Lib.hid (MX.out.same M6)
                    have BX6 := Lib.hid (BX.out.mod M6 (fun q => q))
                    have O16 := Lib.hid (owns_same O1.out M6)
                    have O26 := Lib.hid (owns_same O2.out M6)
                    have hbc := BX6.out.cell
                    have hl3 := HL3.out
                    have hw6 : wc.heap.size ≤ w6.heap.size := MX6.out.size
                    clear M6 hcx hcw MX BX O1 O2
                    go_wp2_with (at_builtin; refine wpList_append_own _ rfl (.tmp 94) (.tmp 96) 29 rfl wc.heap.size 9 i0 (.string ⟨#[]⟩) 1 16 Tryz.underlying29 I0.out Z0.out Z1x.out Z2.out rfl (by decide) _ _ _ rfl (O26.out.alloc _) ⟨w6.heap.size, 0, none⟩ 1 1 [.string ⟨z.toArray⟩] rfl rfl (one_new _ _ _) (fun u hu => (by simp at hu; subst hu; rfl)) (by unfold maxLen; omega) (by omega) (by simp only [World.size_alloc]; omega) ?_; intro v' w7 hown' hgrow _; obtain ⟨av, cv, rfl⟩ := owns_slice hown'; have P1 := Lib.hid (same_append MX6.out O26.out hgrow); have P2 := Lib.hid hown'; have P3 := Lib.hid (blk_append BX6.out hzc O26.out hgrow); have P4 := Lib.hid ((O16.out.alloc _).kept hgrow (own_ne O16.out O26.out).2); have hbc7 := P3.out.cell; have hbf7 := P3.out.free; clear hown' hgrow hbc)
                    have M8 := Lib.hid ((Mod.refl (fun i => i = Z1) w7).setCell (p := ⟨Z1, 2, none⟩) (fun _ => rfl) (.slice av ((dA c0 r j).length + 1) cv))
                    have B8 := Lib.hid (P3.out.set 2 (.slice av ((dA c0 r j).length + 1) cv))
                    have Q2 := Lib.hid (owns_mod2 P2.out M8.out (fun i e => by have : i = Z1 := e; omega))
                    have Q4 := Lib.hid (owns_mod2 P4.out M8.out (fun i e => by have : i = Z1 := e; omega))
                    have Q1 := Lib.hid (P1.out.trans M8.out)
                    clear hbc7 hbf7 P1 P2 P3 P4 M8
                    refine ⟨?_, ?meas2⟩
                    (repeat apply Exists.intro)
                    refine ⟨?rel2, rfl⟩
                    case rel2 =>
                      refine ⟨j + 1, v1, (.slice av ((dA c0 r j).length + 1) cv), by omega, rfl, by go_num, B8.out, ?_, ?_, ?_, ?_, Q1.out⟩
                      · rw [HHI.out.1]; exact Q4.out
                      · rw [HHI.out.2, ← SN.out, List.length_append, List.length_singleton]; exact Q2.out
                      · rw [HHI.out.1]; exact AL1.out
                      · rw [HHI.out.2]
                        intro y hy
                        rcases List.mem_append.1 hy with hy | hy
                        · exact AL2.out y hy
                        · rw [List.mem_singleton.1 hy]; exact HIS.out
                    case meas2 => simp [intOf]; omega
                  · have hok : okW k r = false := okW_dat HX.out (by have := HJC.out; have := HE0.out; omega) (by simpa using hok2)
                    rw [HNO.out hok] at HR
                    unfold RefA at HR
                    dsimp only at HR
                    clear hok SN
                    by_cases hb2 : (refBytes x).2 = true
                    · have hb3 : ¬ (refBytes x).1.length ≤ 512 := by
                        intro h
                        apply hok2
                        rw [HDO.out, hb2, decide_eq_true h]; rfl
                      have d5 : decide ((512 : Int) < ((refBytes x).1.length : Int)) = true := decide_eq_true (by omega)
                      rw [hb2] at HC
                      clear hok2 hb2 hb3 HDO
                      generalize (refBytes x).1 = z at *
                      go_wp2_with fail
                      refine (HC.out _).mono ?_
                      rintro e w6 ⟨rfl, M6⟩
                      have MX6 := Lib.hid (MX.out.same M6)
                      clear M6 hcx hcw
                      have RB := ((BA2.out.mod L2.out (by omega)).mod MX6.out (by omega))
                      have rbc := RB.cell
                      have rbf := RB.free
                      have rbl := RB.lt
                      go_wp2_with fail
                      have M5 := fun (x0 x1 x2 : Value) => (((Mod.refl (fun i => i = Z) w6).setCell (p := ⟨Z, 0, none⟩) (fun _ => rfl) x0).setCell (p := ⟨Z, 1, none⟩) (fun _ => rfl) x1).setCell (p := ⟨Z, 2, none⟩) (fun _ => rfl) x2
                      have BF := ((RB.set 0 (.int .i64 0)).set 1 (.slice none 0 0)).set 2 (.slice none 0 0)
                      have g0 := BF.at_ (i := 0) (.int .i64 0) rfl
                      have g1 := BF.at_ (i := 1) (.slice none 0 0) rfl
                      have g2 := BF.at_ (i := 2) (.slice none 0 0) rfl
                      have N5 := M5 (.int .i64 0) (.slice none 0 0) (.slice none 0 0)
                      clear rbc rbf BF M5
                      generalize ((w6.setCell ⟨Z, 0, none⟩ (.int .i64 0)).setCell ⟨Z, 1, none⟩ (.slice none 0 0)).setCell ⟨Z, 2, none⟩ (.slice none 0 0) = wF at *
                      exact bodyPost_ret (v := .tuple #[.agg #[.int .i64 0, .slice none 0 0, .slice none 0 0], .bool false]) (by simp [results, Tryz.results18, go_sem, g0, g1, g2]) rfl (HR.out _ _ ⟨rfl, ((S2.out.then_ L2.out (fun i hi e => by have : i = Z1 := e; omega)).then_ MX6.out (fun i hi e => by have : i = Z1 := e; omega)).then_ N5 (fun i hi e => by have : i = Z := e; omega)⟩)
                    · have hb2' : (refBytes x).2 = false := by simpa using hb2
                      rw [hb2'] at HC
                      clear hok2 hb2 hb2' HDO
                      generalize (refBytes x).1 = z at *
                      go_wp2_with fail
                      refine (HC.out _).mono ?_
                      rintro e w6 ⟨rfl, M6⟩
                      have MX6 := Lib.hid (MX.out.same M6)
                      clear M6 hcx hcw
                      have RB := ((BA2.out.mod L2.out (by omega)).mod MX6.out (by omega))
                      have rbc := RB.cell
                      have rbf := RB.free
                      have rbl := RB.lt
                      go_wp2_with fail
                      have M5 := fun (x0 x1 x2 : Value) => (((Mod.refl (fun i => i = Z) w6).setCell (p := ⟨Z, 0, none⟩) (fun _ => rfl) x0).setCell (p := ⟨Z, 1, none⟩) (fun _ => rfl) x1).setCell (p := ⟨Z, 2, none⟩) (fun _ => rfl) x2
                      have BF := ((RB.set 0 (.int .i64 0)).set 1 (.slice none 0 0)).set 2 (.slice none 0 0)
                      have g0 := BF.at_ (i := 0) (.int .i64 0) rfl
                      have g1 := BF.at_ (i := 1) (.slice none 0 0) rfl
                      have g2 := BF.at_ (i := 2) (.slice none 0 0) rfl
                      have N5 := M5 (.int .i64 0) (.slice none 0 0) (.slice none 0 0)
                      clear rbc rbf BF M5
                      generalize ((w6.setCell ⟨Z, 0, none⟩ (.int .i64 0)).setCell ⟨Z, 1, none⟩ (.slice none 0 0)).setCell ⟨Z, 2, none⟩ (.slice none 0 0) = wF at *
                      exact bodyPost_ret (v := .tuple #[.agg #[.int .i64 0, .slice none 0 0, .slice none 0 0], .bool false]) (by simp [results, Tryz.results18, go_sem, g0, g1, g2]) rfl (HR.out _ _ ⟨rfl, ((S2.out.then_ L2.out (fun i hi e => by have : i = Z1 := e; omega)).then_ MX6.out (fun i hi e => by have : i = Z1 := e; omega)).then_ N5 (fun i hi e => by have : i = Z := e; omega)⟩)
              · obtain rfl : j = n := by omega
                have hal : okW k r = true := okW_all (by rw [HN.out, HLN.out, HE0.out, HE1.out]) (by rw [← HE0.out, HN.out]; exact AL1.out) (by rw [← HE0.out, HN.out]; exact AL2.out)
                rw [HYS.out hal] at HR
                unfold RefA at HR
                dsimp only at HR
                have F1 := nA_end c0 r
                rw [HN.out] at F1
                rw [F1.1] at O1
                rw [F1.2] at O2
                obtain ⟨a1, q1, rfl⟩ := owns_slice O1.out
                obtain ⟨a2, q2, rfl⟩ := owns_slice O2.out
                have E1 := Lib.hid (show (r.take c0).length = (refW k r).ns.length by rw [HE0.out]; unfold refW; rw [List.length_map])
                have E2 := Lib.hid (show (r.drop c0).length = (refW k r).ts.length by rw [HE0.out]; unfold refW; rw [List.length_map])
                have E3 := Lib.hid (show numsV (r.take c0) = (refW k r).ns.map (Value.int .i64) by rw [HE0.out, refW_ns])
                have E4 := Lib.hid (show datsV (r.drop c0) = (refW k r).ts.map strV by rw [HE0.out, refW_ts])
                have E5 := Lib.hid (show (K : Int) = ((refW k r).k : Int) + 1 by rw [HKk.out]; rfl)
                have hbx := BX.out.cell
                clear hal F1 AL1 AL2
                rw [E1.out] at hbx
                rw [E2.out] at hbx
                rw [E1.out, E3.out] at O1
                rw [E2.out, E4.out] at O2
                clear E1 E2 E3 E4 HE0 HE1
                generalize refW k r = oW at *
                have RB := ((BA2.out.mod L2.out (by omega)).mod MX.out (by omega))
                have rbc := RB.cell
                have rbf := RB.free
                have rbl := RB.lt
                go_wp2_with fail
                have M5 := fun (x0 x1 x2 : Value) => (((Mod.refl (fun i => i = Z) wr).setCell (p := ⟨Z, 0, none⟩) (fun _ => rfl) x0).setCell (p := ⟨Z, 1, none⟩) (fun _ => rfl) x1).setCell (p := ⟨Z, 2, none⟩) (fun _ => rfl) x2
                have BF := ((RB.set 0 (.int .i64 (K : Int))).set 1 (.slice a1 oW.ns.length q1)).set 2 (.slice a2 oW.ts.length q2)
                have g0 := BF.at_ (i := 0) (.int .i64 (K : Int)) rfl
                have g1 := BF.at_ (i := 1) (.slice a1 oW.ns.length q1) rfl
                have g2 := BF.at_ (i := 2) (.slice a2 oW.ts.length q2) rfl
                have N5 := M5 (.int .i64 (K : Int)) (.slice a1 oW.ns.length q1) (.slice a2 oW.ts.length q2)
                clear rbc rbf BF M5
                generalize ((wr.setCell ⟨Z, 0, none⟩ (.int .i64 (K : Int))).setCell ⟨Z, 1, none⟩ (.slice a1 oW.ns.length q1)).setCell ⟨Z, 2, none⟩ (.slice a2 oW.ts.length q2) = wF at *
                exact bodyPost_ret (v := .tuple #[.agg #[.int .i64 (K : Int), .slice a1 oW.ns.length q1, .slice a2 oW.ts.length q2], .bool true]) (by simp [results, Tryz.results18, go_sem, g0, g1, g2]) rfl (HR.out _ _ ⟨⟨a1, q1, a2, q2, by rw [E5.out], owns_rowAt (owns_mod2 O1.out N5 (fun i e => by have : i = Z := e; omega)), owns_rowAt (owns_mod2 O2.out N5 (fun i e => by have : i = Z := e; omega))⟩, ((S2.out.then_ L2.out (fun i hi e => by have : i = Z1 := e; omega)).then_ MX.out (fun i hi e => by have : i = Z1 := e; omega)).then_ N5 (fun i hi e => by have : i = Z := e; omega)⟩)
          · have q2 : (((n : Int) + 1) != 1 + (c0 : Int) + (c1 : Int)) = true := bne_iff_ne.2 (by omega)
            have hok : okW k r = false := okW_len (by rw [HN.out]; have := HE0.out; have := HE1.out; omega)
            rw [HNO.out hok] at HR
            unfold RefA at HR
            dsimp only at HR
            clear hok hlen
            have RB := (BA2.out.mod L2.out (by omega))
            have rbc := RB.cell
            have rbf := RB.free
            have rbl := RB.lt
            go_wp2_with fail
            have M5 := fun (x0 x1 x2 : Value) => (((Mod.refl (fun i => i = Z) wc).setCell (p := ⟨Z, 0, none⟩) (fun _ => rfl) x0).setCell (p := ⟨Z, 1, none⟩) (fun _ => rfl) x1).setCell (p := ⟨Z, 2, none⟩) (fun _ => rfl) x2
            have BF := ((RB.set 0 (.int .i64 0)).set 1 (.slice none 0 0)).set 2 (.slice none 0 0)
            have g0 := BF.at_ (i := 0) (.int .i64 0) rfl
            have g1 := BF.at_ (i := 1) (.slice none 0 0) rfl
            have g2 := BF.at_ (i := 2) (.slice none 0 0) rfl
            have N5 := M5 (.int .i64 0) (.slice none 0 0) (.slice none 0 0)
            clear rbc rbf BF M5
            generalize ((wc.setCell ⟨Z, 0, none⟩ (.int .i64 0)).setCell ⟨Z, 1, none⟩ (.slice none 0 0)).setCell ⟨Z, 2, none⟩ (.slice none 0 0) = wF at *
            exact bodyPost_ret (v := .tuple #[.agg #[.int .i64 0, .slice none 0 0, .slice none 0 0], .bool false]) (by simp [results, Tryz.results18, go_sem, g0, g1, g2]) rfl (HR.out _ _ ⟨rfl, (S2.out.then_ L2.out (fun i hi e => by have : i = Z1 := e; omega)).then_ N5 (fun i hi e => by have : i = Z := e; omega)⟩)
end Go.Proofs.YtdengmlidckkeaaGreatDoor
