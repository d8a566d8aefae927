import Derived.Test.YtlcepoagpocadaaGreatDoorWtVr
import Derived.BigRegion
set_option linter.unusedSimpArgs false
set_option linter.unusedVariables false
set_option maxRecDepth 100000
/- Where the power goes. -/
namespace Go.Proofs.YtlcepoagpocadaaGreatDoor
open Go Go.RowKit
def u8V (b : UInt8) : Value := .int .u8 ((b.toNat : Nat) : Int)
theorem EvOwn.built (w : World) (B : Nat) (hB : B ≤ w.heap.size) (p : EvV) (hp : EvIn (some w.heap.size) (w.alloc (.cells #[ordW p.1.o, .int .i64 p.1.er, .string ⟨p.1.d.toArray⟩, p.2.1, .int .i64 p.1.gen, p.2.2] 34)) p) :
    EvOwn B (w.alloc (.cells #[ordW p.1.o, .int .i64 p.1.er, .string ⟨p.1.d.toArray⟩, p.2.1, .int .i64 p.1.gen, p.2.2] 34)) (.slice (some ⟨w.heap.size, 0, none⟩) 1 1) [p] :=
  ⟨⟨by simp [evL], .inr ⟨_, 1, #[ordW p.1.o, .int .i64 p.1.er, .string ⟨p.1.d.toArray⟩, p.2.1, .int .i64 p.1.gen, p.2.2], rfl, hB, heap_new _ _, Nat.le_refl _, by unfold maxLen; omega, rfl, by simp [evL]⟩⟩, fun q hq => by
    rw [List.mem_singleton.1 hq]
    exact hp⟩
def cuP : EvV := evN cuO 1
def flP : EvV := evN flO 2
def wrP (o : Nat → UInt8) (j : Nat) : List EvV := (List.range j).map fun i => evN (wrO (o i) i) 1
def chP (r : Nat → UInt8) (j : Nat) : List EvV := (List.range j).map fun i => evN (chO (r i) i) 2
theorem wrP_succ (o : Nat → UInt8) (j : Nat) : wrP o (j + 1) = wrP o j ++ [evN (wrO (o j) j) 1] := by unfold wrP; rw [List.range_succ, List.map_append]; rfl
theorem chP_succ (r : Nat → UInt8) (j : Nat) : chP r (j + 1) = chP r j ++ [evN (chO (r j) j) 2] := by unfold chP; rw [List.range_succ, List.map_append]; rfl
theorem evs_map {o r : Nat → UInt8} {n : Nat} : ((cuP :: wrP o n) ++ [flP] ++ chP r n).map (·.1) = evsL o r n := by
  unfold evsL oldL newL wrP chP cuP flP evN
  simp
  rfl

/-- A sector: the old one, or the new one. -/
def BAt (o r : Nat → UInt8) (n y : Nat) (x : UInt8) : Prop := (y < n → x = o y ∨ (x = r y ∧ (r y).toNat % 4 ≠ 0) ∨ (x = 0 ∧ (r y).toNat % 4 = 0)) ∧ (n ≤ y → x = 0)
set_option maxHeartbeats 16000000 in
theorem wcrash_main (lo lf : List UInt8) (a1 a2 : Option Addr) (n1 n2 c1 c2 : Nat) (hn1 : lo.length = n1) (hn2 : lf.length = n2) (wh wr0 : Int) (w : World) (hL : LibT w) (h1 : RowAt w a1 (lo.map u8V)) (h2 : RowAt w a2 (lf.map u8V)) :
    Calls Tryz.prog 3 #[.slice a1 n1 c1, .slice a2 n2 c2, .int .i64 wh, .int .i64 wr0] w fun e w' => e = .returned (.bool true) ∧ Same w w' := by
  refine opq fun R HR => ?_
  have HL := Lib.hid hL
  have H1 := Lib.hid h1
  have H2 := Lib.hid h2
  have HN1 := Lib.hid hn1
  have HN2 := Lib.hid hn2
  clear hL h1 h2 hn1 hn2
  go_enter Tryz.func3, Tryz.ntmps3
  go_wp2_with fail
  refine (awake9_any w HL.out).mono ?_
  rintro e w1 ⟨rfl, M⟩
  have N1 := Lib.hid M
  clear M
  obtain ⟨m, hm⟩ : ∃ m, min (min n1 n2) 8 = m := ⟨_, rfl⟩
  have hm1 : m ≤ n1 := by omega
  have hm2 : m ≤ n2 := by omega
  have hm8 : m ≤ 8 := by omega
  go_upto_region 3 with fail
  go_cut [9] (fun v wx => v = .int .i64 (m : Int) ∧ wx = w1)
  case first =>
    clear HR
    go_wp2_with fail
    all_goals go_meet
    all_goals exact ⟨by congr 1; omega, rfl⟩
  case rest =>
    obtain ⟨rfl, rfl⟩ := hcut
    clear hm
    obtain ⟨o, ho⟩ : ∃ o : Nat → UInt8, (fun i => lo.getD i 0) = o := ⟨_, rfl⟩
    obtain ⟨r, hr⟩ : ∃ r : Nat → UInt8, (fun i => lf.getD i 0) = r := ⟨_, rfl⟩
    have HO := Lib.hid (show ∀ j, j < n1 → (lo.map u8V)[j]? = some (u8V (o j)) from fun j hj => by
      rw [List.getElem?_map, List.getElem?_eq_getElem (by rw [HN1.out]; exact hj), ← ho]
      simp [List.getD_eq_getElem?_getD, List.getElem?_eq_getElem (show j < lo.length by rw [HN1.out]; exact hj)])
    have HRf := Lib.hid (show ∀ j, j < n2 → (lf.map u8V)[j]? = some (u8V (r j)) from fun j hj => by
      rw [List.getElem?_map, List.getElem?_eq_getElem (by rw [HN2.out]; exact hj), ← hr]
      simp [List.getD_eq_getElem?_getD, List.getElem?_eq_getElem (show j < lf.length by rw [HN2.out]; exact hj)])
    have SEC := Lib.hid (show ∀ (x : UInt8) w, Calls Tryz.prog 10 #[.int .u8 ((x.toNat : Nat) : Int)] w fun e w' => e = .returned (.string ⟨(secT x).toArray⟩) ∧ Same w w' from fun x w => by
      have h := sec_any w x.toNat (UInt8.toNat_lt x)
      rw [UInt8.ofNat_toNat] at h
      exact h)
    clear ho hr
    go_upto_region 6 with fail
    have EB := Lib.hid (EvOwn.built wc wc.heap.size (Nat.le_refl _) cuP (evN_in _ _ _ _))
    have NB := Lib.hid (show Same wc (wc.alloc (.cells #[.iface 25 (.agg #[.int .i64 3, .int .i64 8]), .int .i64 0, .string ⟨#[]⟩, .slice none 0 0, .int .i64 1, .slice none 0 0] 34)) from (Mod.refl _ _).alloc _)
    go_loopw [10, 11] (fun v i wx => ∃ j : Nat, j ≤ m ∧ i = .int .i64 j ∧ EvOwn wc.heap.size wx v (cuP :: wrP o j) ∧ Same wc wx) (fun _ i _ => m - (intOf i).toNat)
    case atStart => exact ⟨0, Nat.zero_le _, rfl, EB.out, NB.out⟩
    case round =>
      obtain ⟨j, hj, rfl, hE, hM⟩ := hrel
      have EO := Lib.hid hE
      have J := Lib.hid hM
      clear hE hM
      by_cases hlt : j < m
      · obtain ⟨b, off, rfl, hb, hcc⟩ := (H1.out.same (N1.out.same J.out)) (by rw [List.length_map, HN1.out]; omega)
        have q1 := hcc j _ (HO.out j (by omega))
        unfold u8V at q1
        clear hcc
        go_wp2_with fail
        refine (SEC.out (o j) _).mono ?_
        rintro e w3 ⟨rfl, M⟩
        have J3 := Lib.hid (J.out.same M)
        have EO3 := Lib.hid (EO.out.same M)
        clear M
        go_wp2_with (at_builtin; refine wpList_append_ev (by rfl) (.tmp 39) (.tmp 49) rfl wc.heap.size _ (cuP :: wrP o j) rfl (EO3.out.same ((Mod.refl _ _).alloc _)) ⟨w3.heap.size, 0, none⟩ 1 1 [evN (wrO (o j) j) 1] rfl (by decide) rfl (ev_new w3 (evN (wrO (o j) j) 1)) (fun p hp => by rw [List.mem_singleton.1 hp]; exact evN_in _ _ _ _) (by unfold wrP; simp; omega) (Nat.le_trans J3.out.size ((Mod.refl (fun _ => False) w3).alloc _).size) ?_; intro g cap w4 hown hM4 hat; have EO4 := Lib.hid (show EvOwn wc.heap.size w4 _ (cuP :: wrP o (j + 1)) by rw [wrP_succ]; exact hown); have J4 := Lib.hid (show Same wc w4 from (EO3.out.same ((Mod.refl _ _).alloc _)).kept hM4 (J3.out.alloc _) (Nat.le_refl _)); clear hown hM4 hat)
        exact ⟨⟨j + 1, by omega, by go_num, EO4.out, J4.out⟩, by simp [intOf]; omega⟩
      · obtain rfl : j = m := by omega
        go_upto_region 11 with (at_builtin; refine wpList_append_ev (by rfl) (.tmp 51) (.tmp 55) rfl wc.heap.size _ (cuP :: wrP o j) rfl (EO.out.same ((Mod.refl _ _).alloc _)) ⟨wr.heap.size, 0, none⟩ 1 1 [flP] rfl (by decide) rfl (ev_new wr (flP)) (fun p hp => by rw [List.mem_singleton.1 hp]; exact evN_in _ _ _ _) (by unfold wrP; simp; omega) (Nat.le_trans J.out.size ((Mod.refl (fun _ => False) wr).alloc _).size) ?_; intro g cap w5 hown hMx hat; have EF := Lib.hid (show EvOwn wc.heap.size w5 _ ((cuP :: wrP o j) ++ [flP]) by exact hown); have JF := Lib.hid (show Same wc w5 from (EO.out.same ((Mod.refl _ _).alloc _)).kept hMx (J.out.alloc _) (Nat.le_refl _)); clear hown hMx hat)
        go_loopw [10, 12] (fun v i wx => ∃ i2 : Nat, i2 ≤ j ∧ i = .int .i64 i2 ∧ EvOwn wc.heap.size wx v ((cuP :: wrP o j) ++ [flP] ++ chP r i2) ∧ Same wc wx) (fun _ i _ => j - (intOf i).toNat)
        case atStart => exact ⟨0, Nat.zero_le _, rfl, by rw [show chP r 0 = [] from rfl, List.append_nil]; exact EF.out, JF.out⟩
        case round =>
          obtain ⟨i2, hi2, rfl, hE, hM⟩ := hrel
          have EO2 := Lib.hid hE
          have J2 := Lib.hid hM
          clear hE hM
          by_cases hlt2 : i2 < j
          · obtain ⟨b, off, rfl, hb, hcc⟩ := (H2.out.same (N1.out.same J2.out)) (by rw [List.length_map, HN2.out]; omega)
            have q1 := hcc i2 _ (HRf.out i2 (by omega))
            unfold u8V at q1
            have hx256 : (r i2).toNat < 256 := UInt8.toNat_lt _
            clear hcc
            by_cases h4 : (r i2).toNat % 4 = 0
            · have HCH := Lib.hid (show chO (r i2) i2 = ⟨8, [3, (i2 : Int), 1], []⟩ by unfold chO; rw [if_pos h4])
              go_wp2_with (at_builtin; refine wpList_append_ev (by rfl) (.tmp 68) (.tmp 73) rfl wc.heap.size _ ((cuP :: wrP o j) ++ [flP] ++ chP r i2) rfl (EO2.out.same ((Mod.refl _ _).alloc _)) ⟨wr.heap.size, 0, none⟩ 1 1 [evN ⟨8, [3, (i2 : Int), 1], []⟩ 2] rfl (by decide) rfl (ev_new wr (evN ⟨8, [3, (i2 : Int), 1], []⟩ 2)) (fun p hp => by rw [List.mem_singleton.1 hp]; exact evN_in _ _ _ _) (by unfold wrP chP; simp; omega) (Nat.le_trans J2.out.size ((Mod.refl (fun _ => False) wr).alloc _).size) ?_; intro g9 cap9 w9 hown hMx hat; have EO9 := Lib.hid (show EvOwn wc.heap.size w9 _ ((cuP :: wrP o j) ++ [flP] ++ chP r (i2 + 1)) by rw [chP_succ, ← List.append_assoc, HCH.out]; exact hown); have J9 := Lib.hid (show Same wc w9 from (EO2.out.same ((Mod.refl _ _).alloc _)).kept hMx (J2.out.alloc _) (Nat.le_refl _)); clear hown hMx hat)
              exact ⟨⟨i2 + 1, by omega, by go_num, by
                have h := EO9.out
                rw [show (cuP :: wrP o j ++ [flP] ++ chP r i2).length + 1 = (wrP o j).length + ((chP r i2).length + 1) + 1 + 1 by simp] at h
                exact h, J9.out⟩, by simp [intOf]; omega⟩
            · have HCH := Lib.hid (show chO (r i2) i2 = wrO (r i2) i2 by unfold chO; rw [if_neg h4])
              go_wp2_with fail
              refine (SEC.out (r i2) _).mono ?_
              rintro e w3 ⟨rfl, M⟩
              have J3 := Lib.hid (J2.out.same M)
              have EO3 := Lib.hid (EO2.out.same M)
              clear M
              go_wp2_with (at_builtin; refine wpList_append_ev (by rfl) (.tmp 75) (.tmp 85) rfl wc.heap.size _ ((cuP :: wrP o j) ++ [flP] ++ chP r i2) rfl (EO3.out.same ((Mod.refl _ _).alloc _)) ⟨w3.heap.size, 0, none⟩ 1 1 [evN (wrO (r i2) i2) 2] rfl (by decide) rfl (ev_new w3 (evN (wrO (r i2) i2) 2)) (fun p hp => by rw [List.mem_singleton.1 hp]; exact evN_in _ _ _ _) (by unfold wrP chP; simp; omega) (Nat.le_trans J3.out.size ((Mod.refl (fun _ => False) w3).alloc _).size) ?_; intro g9 cap9 w9 hown hMx hat; have EO9 := Lib.hid (show EvOwn wc.heap.size w9 _ ((cuP :: wrP o j) ++ [flP] ++ chP r (i2 + 1)) by rw [chP_succ, ← List.append_assoc, HCH.out]; exact hown); have J9 := Lib.hid (show Same wc w9 from (EO3.out.same ((Mod.refl _ _).alloc _)).kept hMx (J3.out.alloc _) (Nat.le_refl _)); clear hown hMx hat)
              exact ⟨⟨i2 + 1, by omega, by go_num, by
                have h := EO9.out
                rw [show (cuP :: wrP o j ++ [flP] ++ chP r i2).length + 1 = (wrP o j).length + ((chP r i2).length + 1) + 1 + 1 by simp] at h
                exact h, J9.out⟩, by simp [intOf]; omega⟩
          · obtain rfl : i2 = j := by omega
            clear EO EF JF J EB NB
            obtain ⟨Lp, hLp⟩ : ∃ z, (cuP :: wrP o i2) ++ [flP] ++ chP r i2 = z := ⟨_, rfl⟩
            rw [hLp] at EO2
            have HLQ := Lib.hid hLp
            have HLn := Lib.hid (show Lp.length = 2 * i2 + 2 by rw [← hLp]; unfold wrP chP; simp; omega)
            obtain ⟨gl, cl, rfl, hglB, hgll, hAt⟩ := EO2.out.at_ (by rw [HLn.out]; omega)
            have HATa := Lib.hid hAt
            clear hAt hLp
            go_upto_region 18 with fail
            obtain ⟨w20, hw20⟩ : ∃ z, z = wr := ⟨_, rfl⟩
            subst hw20
            go_loopw [13, 14] (fun sv i wx => ∃ (k : Nat) (b : Nat → UInt8), k ≤ 8 ∧ i = .int .i64 k ∧ sv = .string ⟨(flat16 (fun y => secT (b y)) k).toArray⟩ ∧ (∀ y, y < k → BAt o r i2 y (b y)) ∧ Same w20 wx) (fun _ i _ => 8 - (intOf i).toNat)
            case atStart => exact ⟨0, fun _ => 0, Nat.zero_le _, rfl, rfl, (fun y h => by omega), Mod.refl _ _⟩
            case round =>
              obtain ⟨k, b, hk, rfl, rfl, hb, hM⟩ := hrel
              have HB := Lib.hid hb
              have J3 := Lib.hid hM
              clear hb hM
              by_cases hlt3 : k < 8
              · have hkr : wr.heap.size = wr.heap.size := rfl
                obtain ⟨T, hT⟩ : ∃ T : ByteArray, (⟨(flat16 (fun y => secT (b y)) k).toArray⟩ : ByteArray) = T := ⟨_, rfl⟩
                have HTT := Lib.hid hT
                rw [hT]
                clear hT
                have hTs : T.size = k * 16 := by rw [← HTT.out, bytes_size, flat_len k (fun i _ => secT_len _)]
                have SEC0 := Lib.hid (show ∀ w, Calls Tryz.prog 10 #[.int .u8 0] w fun e w' => e = .returned (.string ⟨(secT 0).toArray⟩) ∧ Same w w' from fun w => SEC.out 0 w)
                by_cases hkm : k < i2
                · obtain ⟨g1, f1, rfl, hb1, hcc1⟩ := (H1.out.same ((N1.out.same J2.out).same J3.out)) (by rw [List.length_map, HN1.out]; omega)
                  have q1 := hcc1 k _ (HO.out k (by omega))
                  obtain ⟨g2, f2, rfl, hb2, hcc2⟩ := (H2.out.same ((N1.out.same J2.out).same J3.out)) (by rw [List.length_map, HN2.out]; omega)
                  have q2 := hcc2 k _ (HRf.out k (by omega))
                  unfold u8V at q1 q2
                  have hx256 : (r k).toNat < 256 := UInt8.toNat_lt _
                  clear hcc1 hcc2
                  by_cases h4 : (r k).toNat % 4 = 0
                  · clear HR
                    go_wp2_with fail
                    · refine (SEC.out (o k) _).mono ?_
                      rintro e w3 ⟨rfl, M⟩
                      have J4 := Lib.hid (J3.out.same M)
                      clear M
                      have hxs : (⟨(secT (o k)).toArray⟩ : ByteArray).size = 16 := by rw [bytes_size]; exact secT_len _
                      have HC := Lib.hid (show T ++ ⟨(secT (o k)).toArray⟩ = ⟨(flat16 (fun y => secT (upd b k (o k) y)) (k + 1)).toArray⟩ by
                        rw [← HTT.out, str_add, flat_succ, upd_same, flat_congr (f := fun y => secT (upd b k (o k) y)) (g := fun y => secT (b y)) k (fun i hi => by rw [upd_ne _ _ (by omega)])])
                      go_wp2_with fail
                      exact ⟨⟨k + 1, upd b k (o k), by omega, by go_num, by rw [HC.out], (fun y hy => by
                        by_cases q : y = k
                        · subst q
                          rw [upd_same]
                          exact ⟨fun _ => .inl rfl, fun q => by omega⟩
                        · rw [upd_ne _ _ q]
                          exact HB.out y (by omega)), J4.out⟩, by simp [intOf]; omega⟩
                    · refine (SEC0.out _).mono ?_
                      rintro e w3 ⟨rfl, M⟩
                      have J4 := Lib.hid (J3.out.same M)
                      clear M
                      have hxs : (⟨(secT 0).toArray⟩ : ByteArray).size = 16 := by rw [bytes_size]; exact secT_len _
                      have HC := Lib.hid (show T ++ ⟨(secT 0).toArray⟩ = ⟨(flat16 (fun y => secT (upd b k 0 y)) (k + 1)).toArray⟩ by
                        rw [← HTT.out, str_add, flat_succ, upd_same, flat_congr (f := fun y => secT (upd b k 0 y)) (g := fun y => secT (b y)) k (fun i hi => by rw [upd_ne _ _ (by omega)])])
                      go_wp2_with fail
                      exact ⟨⟨k + 1, upd b k 0, by omega, by go_num, by rw [HC.out], (fun y hy => by
                        by_cases q : y = k
                        · subst q
                          rw [upd_same]
                          exact ⟨fun _ => .inr (.inr ⟨rfl, h4⟩), fun q => by omega⟩
                        · rw [upd_ne _ _ q]
                          exact HB.out y (by omega)), J4.out⟩, by simp [intOf]; omega⟩
                  · clear HR
                    go_wp2_with fail
                    · refine (SEC.out (o k) _).mono ?_
                      rintro e w3 ⟨rfl, M⟩
                      have J4 := Lib.hid (J3.out.same M)
                      clear M
                      have hxs : (⟨(secT (o k)).toArray⟩ : ByteArray).size = 16 := by rw [bytes_size]; exact secT_len _
                      have HC := Lib.hid (show T ++ ⟨(secT (o k)).toArray⟩ = ⟨(flat16 (fun y => secT (upd b k (o k) y)) (k + 1)).toArray⟩ by
                        rw [← HTT.out, str_add, flat_succ, upd_same, flat_congr (f := fun y => secT (upd b k (o k) y)) (g := fun y => secT (b y)) k (fun i hi => by rw [upd_ne _ _ (by omega)])])
                      go_wp2_with fail
                      exact ⟨⟨k + 1, upd b k (o k), by omega, by go_num, by rw [HC.out], (fun y hy => by
                        by_cases q : y = k
                        · subst q
                          rw [upd_same]
                          exact ⟨fun _ => .inl rfl, fun q => by omega⟩
                        · rw [upd_ne _ _ q]
                          exact HB.out y (by omega)), J4.out⟩, by simp [intOf]; omega⟩
                    · refine (SEC.out (r k) _).mono ?_
                      rintro e w3 ⟨rfl, M⟩
                      have J4 := Lib.hid (J3.out.same M)
                      clear M
                      have hxs : (⟨(secT (r k)).toArray⟩ : ByteArray).size = 16 := by rw [bytes_size]; exact secT_len _
                      have HC := Lib.hid (show T ++ ⟨(secT (r k)).toArray⟩ = ⟨(flat16 (fun y => secT (upd b k (r k) y)) (k + 1)).toArray⟩ by
                        rw [← HTT.out, str_add, flat_succ, upd_same, flat_congr (f := fun y => secT (upd b k (r k) y)) (g := fun y => secT (b y)) k (fun i hi => by rw [upd_ne _ _ (by omega)])])
                      go_wp2_with fail
                      exact ⟨⟨k + 1, upd b k (r k), by omega, by go_num, by rw [HC.out], (fun y hy => by
                        by_cases q : y = k
                        · subst q
                          rw [upd_same]
                          exact ⟨fun _ => .inr (.inl ⟨rfl, h4⟩), fun q => by omega⟩
                        · rw [upd_ne _ _ q]
                          exact HB.out y (by omega)), J4.out⟩, by simp [intOf]; omega⟩
                · clear HR
                  go_wp2_with fail
                  refine (SEC0.out _).mono ?_
                  rintro e w3 ⟨rfl, M⟩
                  have J4 := Lib.hid (J3.out.same M)
                  clear M
                  have hxs : (⟨(secT 0).toArray⟩ : ByteArray).size = 16 := by rw [bytes_size]; exact secT_len _
                  have HC := Lib.hid (show T ++ ⟨(secT 0).toArray⟩ = ⟨(flat16 (fun y => secT (upd b k 0 y)) (k + 1)).toArray⟩ by
                    rw [← HTT.out, str_add, flat_succ, upd_same, flat_congr (f := fun y => secT (upd b k 0 y)) (g := fun y => secT (b y)) k (fun i hi => by rw [upd_ne _ _ (by omega)])])
                  go_wp2_with fail
                  exact ⟨⟨k + 1, upd b k 0, by omega, by go_num, by rw [HC.out], (fun y hy => by
                    by_cases q : y = k
                    · subst q
                      rw [upd_same]
                      exact ⟨fun q => by omega, fun _ => rfl⟩
                    · rw [upd_ne _ _ q]
                      exact HB.out y (by omega)), J4.out⟩, by simp [intOf]; omega⟩
              · obtain rfl : k = 8 := by omega
                have hb3 := Lib.hid HB.out
                obtain ⟨X, hX⟩ : ∃ X, flat16 (fun y => secT (b y)) 8 = X := ⟨_, rfl⟩
                have HXX := Lib.hid hX
                rw [hX]
                have hXl : X.length = 128 := by rw [← hX, flat_len 8 (fun i _ => secT_len _)]
                clear hX HB
                go_upto_region 27 with fail
                obtain ⟨gv, hgv⟩ : ∃ z, wr.heap.size = z := ⟨_, rfl⟩
                obtain ⟨gd, hgd⟩ : ∃ z, gv + 1 = z := ⟨_, rfl⟩
                obtain ⟨gx, hgx⟩ : ∃ z, gd + 1 = z := ⟨_, rfl⟩
                obtain ⟨w21, hw21⟩ : ∃ z, wr.alloc (.cells #[.int .i64 3, .int .i64 8, .int .i64 0, .bool false, .int .i64 0] 47) = z := ⟨_, rfl⟩
                obtain ⟨w22, hw22⟩ : ∃ z, w21.alloc (.cells #[.string ⟨X.toArray⟩] 9) = z := ⟨_, rfl⟩
                obtain ⟨w23, hw23⟩ : ∃ z, w22.alloc (.cells #[.iface 45 (.agg #[.string ⟨#[]⟩, .string ⟨#[]⟩, .string ⟨#[]⟩]), .int .i64 0, .string ⟨#[]⟩, .slice (some ⟨gv, 0, none⟩) 1 1, .int .i64 2, .slice (some ⟨gd, 0, none⟩) 1 1] 34) = z := ⟨_, rfl⟩
                rw [hgv, hgd, hgx, hw21, hw22, hw23]
                have z21 : w21.heap.size = gd := by rw [← hw21, ← hgd, ← hgv]; simp
                have z22 : w22.heap.size = gx := by rw [← hw22, ← hgx, ← z21]; simp
                have z23 : w23.heap.size = gx + 1 := by rw [← hw23, ← z22]; simp
                have hvx : gv ≠ gx := by omega
                have hdx1 : gd ≠ gx := by omega
                have hwx : w.heap.size ≤ gx := by have := ((N1.out.same J2.out).same J3.out).size; omega
                have hglx : gl ≠ gx := by have := J3.out.size; omega
                have M23 := Lib.hid (show Same wr w23 by rw [← hw23, ← hw22, ← hw21]; exact (((Mod.refl _ _).alloc _).alloc _).alloc _)
                have BV1 := Lib.hid (show Blk w23 gv #[.int .i64 3, .int .i64 8, .int .i64 0, .bool false, .int .i64 0] by rw [← hw23, ← hw22, ← hw21, ← hgv]; exact ((Blk.new wr _ 47).alloc _).alloc _)
                have BD1 := Lib.hid (show Blk w23 gd #[strV X] by rw [← hw23, ← hw22, ← z21]; exact (Blk.new w21 _ 9).alloc _)
                have BX1 := Lib.hid (show Blk w23 gx #[.iface 45 (.agg #[.string ⟨#[]⟩, .string ⟨#[]⟩, .string ⟨#[]⟩]), .int .i64 0, .string ⟨#[]⟩, .slice (some ⟨gv, 0, none⟩) 1 1, .int .i64 2, .slice (some ⟨gd, 0, none⟩) 1 1] by rw [← hw23, ← z22]; exact Blk.new w22 _ 34)
                have N23 := Lib.hid (show Same w w23 from ((N1.out.same J2.out).same J3.out).same M23.out)
                have HAT1 := Lib.hid (show EvAt w23 ⟨gl, 0, none⟩ Lp from (HATa.out.same hgll J3.out).same (Nat.lt_of_lt_of_le hgll J3.out.size) M23.out)
                have HLI := Lib.hid (show ∀ own W, ∀ p ∈ Lp, EvIn own W p from fun own W p hp => by
                  rw [← HLQ.out] at hp
                  rcases List.mem_append.1 hp with hp | hp
                  · rcases List.mem_append.1 hp with hp | hp
                    · rcases List.mem_cons.1 hp with rfl | hp
                      · exact evN_in _ _ _ _
                      · unfold wrP at hp
                        obtain ⟨i, _, rfl⟩ := List.mem_map.1 hp
                        exact evN_in _ _ _ _
                    · rw [List.mem_singleton.1 hp]
                      exact evN_in _ _ _ _
                  · unfold chP at hp
                    obtain ⟨i, _, rfl⟩ := List.mem_map.1 hp
                    exact evN_in _ _ _ _)
                have hgl1 : gl < w23.heap.size := Nat.lt_of_lt_of_le (Nat.lt_of_lt_of_le hgll J3.out.size) M23.out.size
                have HLP : 0 < Lp.length := by rw [HLn.out]; omega
                have HLB : ([] : List EvV).length + Lp.length ≤ 100000 := by show 0 + Lp.length ≤ 100000; rw [HLn.out]; omega
                have HLB2 : Lp.length ≤ 1000 := by rw [HLn.out]; omega
                have hgv3 := BV1.out.lt
                have hgd3 := BD1.out.lt
                have hgx3 := BX1.out.lt
                clear hw21 hw22 hw23 z21 z22 z23 hgv hgd hgx
                refine reg27_ev BX1 BV1 BD1 HAT1 HLI hvx hdx1 hgl1 HLP HLB2 ?_
                intro q133 q134 q135 q136 q137 q138 gA cA wc hRA hMA
                focus
                  obtain ⟨w30, hw30⟩ : ∃ z, z = wc := ⟨_, rfl⟩
                  subst hw30
                  have hEM : Lp.map (·.1) = evsL o r i2 := by rw [← HLQ.out]; exact evs_map
                  have RA := Lib.hid (show EvRow w30 (some ⟨gA, 0, none⟩) (evsL o r i2 ++ [evK vol3 2 X]) by rw [← hEM]; exact hRA _ (Mod.refl _ _))
                  have N30 := Lib.hid (N23.out.same hMA)
                  have NA30 := Lib.hid (show Same w23 w30 from hMA)
                  have BV30 := Lib.hid (BV1.out.mod hMA (fun q => q))
                  have BX30 := Lib.hid (BX1.out.mod hMA (fun q => q))
                  have HAT30 := Lib.hid (HAT1.out.same hgl1 hMA)
                  have HEM := Lib.hid hEM
                  obtain ⟨b', hbk, hXb⟩ : ∃ b', BOk o r i2 b' ∧ X = txtB b' := ⟨fun y => if y < 8 then b y else 0, ⟨fun y hy => by
                      show (if y < 8 then b y else 0) = o y ∨ ((if y < 8 then b y else 0) = r y ∧ _) ∨ ((if y < 8 then b y else 0) = 0 ∧ _)
                      rw [if_pos (by omega)]
                      exact (hb3.out y (by omega)).1 hy, fun y hy => by
                      show (if y < 8 then b y else 0) = 0
                      split
                      · exact (hb3.out y (by omega)).2 hy
                      · rfl⟩, by
                      rw [← HXX.out]
                      unfold txtB
                      exact flat_congr 8 (fun i hi => by dsimp only; rw [if_pos hi])⟩
                  have HBK := Lib.hid hbk
                  have HXb := Lib.hid hXb
                  have hi8 : i2 ≤ 8 := by omega
                  have HOK := Lib.hid (fun (gen : Int) (hg : gen = 2 ∨ gen = 4) (x : List UInt8) (hx : x.length ≤ 1000000) P f (hP : Iso (emptyS 1) P f) (j : Nat) (t : WS) (ev : Ev) (hr : RunR ⟨emptyS 1, P, 1, []⟩ ((evsL o r i2 ++ [evK vol3 gen x]).take j) t) (hj : (evsL o r i2 ++ [evK vol3 gen x])[j]? = some ev) => show EvOk t ev from by
                    rcases evs_take hi8 hr hj with ⟨_, rfl, h⟩ | ⟨_, h, _⟩
                    · exact evk_ok hg hx h.gen
                    · exact evs_ok hi8 h)
                  have hel : (evsL o r i2 ++ [evK vol3 2 X]).length = Lp.length + 1 := by rw [List.length_append, evs_len, HLn.out]; rfl
                  have TA := Lib.hid (show Calls Tryz.prog 11 #[.slice (some ⟨gA, 0, none⟩) (Lp.length + 1) cA, .int .i64 1, .int .i64 40] w30 fun e w' => TolR 1 (evsL o r i2 ++ [evK vol3 2 X]) w' e ∧ Same w30 w' from told_run w30 (HL.out.same N30.out) _ _ _ cA hel RA.out 1 (by decide) (by decide) 40 (by omega) (HOK.out 2 (.inl rfl) X (by omega)))
                  clear hRA hMA hEM hbk hXb hel
                  go_wp2_with fail
                  refine TA.out.mono ?_
                  rintro e w31 ⟨⟨P, f, hP, hc⟩, M⟩
                  have N31 := Lib.hid (show Same w30 w31 from M)
                  clear M
                  rcases hc with ⟨t, mm, KK, hrun, rfl, hmm, hGt, hWt⟩ | ⟨jj, t, ev, hrun, hjj, hg, rfl⟩
                  case inr =>
                    exfalso
                    rcases evs_take hi8 hrun hjj with ⟨_, rfl, h⟩ | ⟨_, _, h⟩
                    · rw [HXb.out] at hg
                      exact (crash_good hi8 h HBK.out).1 hg
                    · exact h hg
                  have HMM := Lib.hid hmm
                  have HGW := Lib.hid (show Good t.now ∧ Wf t.now from ⟨hGt, hWt⟩)
                  have HDU := Lib.hid (show dumpS t.now = [X] by
                    obtain ⟨u, h, g⟩ := evs_full hi8 hrun
                    rw [HXb.out] at g ⊢
                    exact (crash_good hi8 h HBK.out).2 t g)
                  clear hP hrun hmm hGt hWt TA
                  unfold bp
                  go_wp2_with fail
                  refine (dump_md HMM.out HGW.out.1 HGW.out.2).mono ?_
                  rintro e w32 ⟨vd, rfl, hod, -, M⟩
                  have N32 := Lib.hid (N31.out.same M)
                  have hv1 : t.now.vols.length = 1 := by
                    have := congrArg List.length HDU.out
                    unfold dumpS at this
                    simpa using this
                  rw [HDU.out, hv1] at hod
                  obtain ⟨gq, cq, rfl, -, -, hRq⟩ := RowV.of_owns hod (by decide)
                  have d0 := hRq.cell 0 (by decide)
                  rw [show ([X].map strV).getD 0 undef = .string ⟨X.toArray⟩ from rfl] at d0
                  clear hod M hRq hv1
                  have hut := utmod wr0 8 (by decide) (by decide)
                  obtain ⟨ii, hii⟩ : ∃ ii : Nat, wrap64 ((IntKind.u64.wrap wr0).tmod 8) = (ii : Int) := ⟨_, (Int.toNat_of_nonneg hut.1).symm⟩
                  rw [hii] at hut
                  have hi9 : ii < 8 := by omega
                  clear hut
                  go_upto_region 32 with fail
                  have N32w := Lib.hid (N30.out.same N32.out)
                  have BX32 := Lib.hid (BX30.out.mod N32.out (fun q => q))
                  obtain ⟨XB, hXB⟩ : ∃ z : ByteArray, (⟨X.toArray⟩ : ByteArray) = z := ⟨_, rfl⟩
                  have HXB := Lib.hid hXB
                  rw [hXB]
                  obtain ⟨SB, hSB⟩ : ∃ z : ByteArray, (⟨#[48, 49, 50, 51, 52, 53, 54, 55, 56, 57, 97, 98, 99, 100, 101, 102]⟩ : ByteArray) = z := ⟨_, rfl⟩
                  have HSB := Lib.hid hSB
                  rw [hSB]
                  have hXs : XB.size = 8 * 16 := by rw [← hXB, bytes_size, hXl]
                  obtain ⟨XA, hXA⟩ : ∃ z, XB.extract 0 (16 * ii) = z := ⟨_, rfl⟩
                  obtain ⟨XC, hXC⟩ : ∃ z, XB.extract (16 * ii + 16) (8 * 16) = z := ⟨_, rfl⟩
                  have hXAs : XA.size = 16 * ii := by rw [← hXA, ByteArray.size_extract, hXs]; omega
                  have hXCs : XC.size = 8 * 16 - (16 * ii + 16) := by rw [← hXC, ByteArray.size_extract, hXs]; omega
                  have hSBs : SB.size = 16 := by rw [← hSB]; rfl
                  have hABs : (XA ++ SB).size = 16 * ii + 16 := by rw [ByteArray.size_append, hXAs, hSBs]
                  have x5 := BX32.out.at_ (i := 5) _ rfl
                  have f5 := BX32.out.free 5
                  have lx := BX32.out.lt
                  clear hXB hSB d0
                  go_region
                  rw [hii]
                  clear hii
                  obtain ⟨gY, hgY⟩ : ∃ z, w32.heap.size = z := ⟨_, rfl⟩
                  rw [hgY]
                  obtain ⟨w34, hw34⟩ : ∃ z, ((w32.setCell ⟨gx, 5, none⟩ (.slice (some ⟨gY, 0, none⟩) 1 1)).alloc (.cells #[.string (XA ++ SB ++ XC)] 9)).drew = z := ⟨_, rfl⟩
                  rw [hw34]
                  have MX34 := Lib.hid (show Mod (fun i => i = gx) w32 w34 by rw [← hw34]; exact ((Mod.put (Mod.refl _ _)).alloc _).drew)
                  obtain ⟨Y, hYd⟩ : ∃ Y, flat16 (upd (fun y => secT (b' y)) ii sT) 8 = Y := ⟨_, rfl⟩
                  have HYD := Lib.hid hYd
                  have hYl : Y.length = 128 := by
                    rw [← hYd, flat_len 8 (fun j _ => by
                      unfold upd
                      split
                      · rfl
                      · exact secT_len _)]
                  have hYb : XA ++ SB ++ XC = ⟨Y.toArray⟩ := by
                    rw [← hXA, ← hXC, ← HXB.out, ← HSB.out, ← hYd]
                    refine (text3 X sT ii 8 (by omega)).trans ?_
                    have hx : X = flat16 (fun y => secT (b' y)) 8 := HXb.out
                    rw [hx, flat_set 8 (fun i _ => secT_len _) hi9]
                  have BX2 := Lib.hid (show Blk w34 gx #[.iface 45 (.agg #[.string ⟨#[]⟩, .string ⟨#[]⟩, .string ⟨#[]⟩]), .int .i64 0, .string ⟨#[]⟩, .slice (some ⟨gv, 0, none⟩) 1 1, .int .i64 2, .slice (some ⟨gY, 0, none⟩) 1 1] by
                    rw [← hw34]
                    have h := ((BX32.out.set 5 (.slice (some ⟨gY, 0, none⟩) 1 1)).alloc (.cells #[.string (XA ++ SB ++ XC)] 9)).drew
                    simp at h
                    exact h)
                  have BV2 := Lib.hid (show Blk w34 gv #[.int .i64 3, .int .i64 8, .int .i64 0, .bool false, .int .i64 0] from (BV30.out.mod N32.out (fun q => q)).mod MX34.out hvx)
                  have BD2 := Lib.hid (show Blk w34 gY #[strV Y] by
                    rw [← hw34, hYb, ← hgY]
                    have h := Blk.new (w32.setCell ⟨gx, 5, none⟩ (.slice (some ⟨w32.heap.size, 0, none⟩) 1 1)) #[strV Y] 9
                    rw [World.size_setCell] at h
                    exact h.drew)
                  have hgl30 : gl < w30.heap.size := Nat.lt_of_lt_of_le hgl1 NA30.out.size
                  have hgl32 : gl < w32.heap.size := Nat.lt_of_lt_of_le hgl30 N32.out.size
                  have HAT2 := Lib.hid (show EvAt w34 ⟨gl, 0, none⟩ Lp from (HAT30.out.same hgl30 N32.out).mod MX34.out hglx hgl32)
                  have hgl2 : gl < w34.heap.size := Nat.lt_of_lt_of_le hgl32 MX34.out.size
                  have N34 := Lib.hid (show Same w w34 from (N32w.out.mono (fun _ _ q => q.elim)).then_ MX34.out (fun i hi q => by omega))
                  have hdx2 : gY ≠ gx := by omega
                  have hgv4 := BV2.out.lt
                  have hgY4 := BD2.out.lt
                  have hgx4 := BX2.out.lt
                  clear hw34 hYd hXA hXC hXs hXAs hXCs hSBs hABs x5 f5 lx hgY hYb
                  go_upto_region 33 with fail
                  refine reg33_ev BX2 BV2 BD2 HAT2 HLI hvx hdx2 hgl2 HLP HLB2 ?_
                  intro q175 q176 q177 q178 q179 q180 gB cB wc hRB hMB
                  focus
                    obtain ⟨w36, hw36⟩ : ∃ z, z = wc := ⟨_, rfl⟩
                    subst hw36
                    have HRB := Lib.hid hRB
                    have N36 := Lib.hid (N34.out.same hMB)
                    have BX36 := Lib.hid (BX2.out.mod hMB (fun q => q))
                    have BV36 := Lib.hid (BV2.out.mod hMB (fun q => q))
                    have HAT36 := Lib.hid (HAT2.out.same hgl2 hMB)
                    have hgl36 : gl < w36.heap.size := Nat.lt_of_lt_of_le hgl2 hMB.size
                    have x5 := BX36.out.at_ (i := 5) _ rfl
                    have f5 := BX36.out.free 5
                    have x4 := BX36.out.at_ (i := 4) _ rfl
                    have f4 := BX36.out.free 4
                    have lx := BX36.out.lt
                    clear hRB hMB
                    go_upto_region 36 with fail
                    obtain ⟨gZ, hgZ⟩ : ∃ z, w36.heap.size = z := ⟨_, rfl⟩
                    rw [hgZ]
                    obtain ⟨w38, hw38⟩ : ∃ z, ((w36.setCell ⟨gx, 5, none⟩ (.slice (some ⟨gZ, 0, none⟩) 1 1)).setCell ⟨gx, 4, none⟩ (.int .i64 4)).alloc (.cells #[.string XB] 9) = z := ⟨_, rfl⟩
                    rw [hw38]
                    have MX38 := Lib.hid (show Mod (fun i => i = gx) w36 w38 by rw [← hw38]; exact ((Mod.put (Mod.put (Mod.refl _ _))).alloc _))
                    have BX3 := Lib.hid (show Blk w38 gx #[.iface 45 (.agg #[.string ⟨#[]⟩, .string ⟨#[]⟩, .string ⟨#[]⟩]), .int .i64 0, .string ⟨#[]⟩, .slice (some ⟨gv, 0, none⟩) 1 1, .int .i64 4, .slice (some ⟨gZ, 0, none⟩) 1 1] by
                      rw [← hw38]
                      have h := ((BX36.out.set 5 (.slice (some ⟨gZ, 0, none⟩) 1 1)).set 4 (.int .i64 4)).alloc (.cells #[.string XB] 9)
                      simp at h
                      exact h)
                    have BV3 := Lib.hid (show Blk w38 gv #[.int .i64 3, .int .i64 8, .int .i64 0, .bool false, .int .i64 0] from BV36.out.mod MX38.out hvx)
                    have BD3 := Lib.hid (show Blk w38 gZ #[strV X] by
                      rw [← hw38, ← HXB.out, ← hgZ]
                      have h := Blk.new ((w36.setCell ⟨gx, 5, none⟩ (.slice (some ⟨w36.heap.size, 0, none⟩) 1 1)).setCell ⟨gx, 4, none⟩ (.int .i64 4)) #[strV X] 9
                      rw [World.size_setCell, World.size_setCell] at h
                      exact h)
                    have HAT3 := Lib.hid (show EvAt w38 ⟨gl, 0, none⟩ Lp from HAT36.out.mod MX38.out hglx hgl36)
                    have hgl3 : gl < w38.heap.size := Nat.lt_of_lt_of_le hgl36 MX38.out.size
                    have N38 := Lib.hid (show Same w w38 from (N36.out.mono (fun _ _ q => q.elim)).then_ MX38.out (fun i hi q => by omega))
                    have hdx3 : gZ ≠ gx := by omega
                    have hgv5 := BV3.out.lt
                    have hgZ5 := BD3.out.lt
                    have hgx5 := BX3.out.lt
                    have RB38 := Lib.hid (HRB.out w38 MX38.out)
                    clear hw38 x5 f5 x4 f4 lx hgZ
                    go_upto_region 36 with fail
                    refine reg36_ev BX3 BV3 BD3 HAT3 HLI hvx hdx3 hgl3 HLP HLB2 ?_
                    intro q185 q186 q187 q188 q189 q190 gC cC wc hRC hMC
                    focus
                      obtain ⟨w40, hw40⟩ : ∃ z, z = wc := ⟨_, rfl⟩
                      subst hw40
                      have N40 := Lib.hid (N38.out.same hMC)
                      have RB := Lib.hid (show EvRow w40 (some ⟨gB, 0, none⟩) (evsL o r i2 ++ [evK vol3 2 Y]) by rw [← HEM.out]; exact RB38.out.same hMC)
                      have RC := Lib.hid (show EvRow w40 (some ⟨gC, 0, none⟩) (evsL o r i2 ++ [evK vol3 4 X]) by rw [← HEM.out]; exact hRC _ (Mod.refl _ _))
                      have hel : ∀ e, (evsL o r i2 ++ [e]).length = Lp.length + 1 := fun e => by rw [List.length_append, evs_len, HLn.out]; rfl
                      have WB := Lib.hid (show Calls Tryz.prog 13 #[.slice (some ⟨gB, 0, none⟩) (Lp.length + 1) cB, .int .i64 1, .int .i64 40] w40 fun e w' => WroR 1 (evsL o r i2 ++ [evK vol3 2 Y]) e ∧ Same w40 w' from wrong_run w40 (HL.out.same N40.out) _ _ _ cB (hel _) RB.out 1 (by decide) (by decide) 40 (by omega) (HOK.out 2 (.inl rfl) Y (by omega)))
                      have WC := Lib.hid (fun W (M : Same w40 W) => show Calls Tryz.prog 13 #[.slice (some ⟨gC, 0, none⟩) (Lp.length + 1) cC, .int .i64 1, .int .i64 40] W fun e w' => WroR 1 (evsL o r i2 ++ [evK vol3 4 X]) e ∧ Same W w' from wrong_run W (HL.out.same (N40.out.same M)) _ _ _ cC (hel _) (RC.out.same M) 1 (by decide) (by decide) 40 (by omega) (HOK.out 4 (.inr rfl) X (by omega)))
                      have hbl : ((Lp.length : Int) == (Lp.length : Int)) = true := by simp
                      clear hRC hMC hel
                      go_wp2_with fail
                      refine WB.out.mono ?_
                      rintro e w41 ⟨⟨P, f, hP, hc⟩, M⟩
                      have N41 := Lib.hid (show Same w40 w41 from M)
                      clear M
                      rcases hc with ⟨t, hrun, rfl⟩ | ⟨jj, t, ev, hrun, hjj, hg, rfl⟩
                      case inl =>
                        exfalso
                        obtain ⟨u, h, g⟩ := evs_full hi8 hrun
                        rw [← HYD.out] at g
                        exact crash_bad h hi9 g
                      obtain rfl : jj = Lp.length := by
                        rw [HLn.out]
                        rcases evs_take hi8 hrun hjj with ⟨q, _⟩ | ⟨_, _, h⟩
                        · exact q
                        · exact absurd hg h
                      clear hP hrun hjj hg WB
                      go_wp2_with fail
                      refine (WC.out _ N41.out).mono ?_
                      rintro e w42 ⟨⟨P, f, hP, hc⟩, M⟩
                      have N42 := Lib.hid (N41.out.same M)
                      clear M
                      rcases hc with ⟨t, hrun, rfl⟩ | ⟨jj, t, ev, hrun, hjj, hg, rfl⟩
                      case inl =>
                        exfalso
                        obtain ⟨u, h, g⟩ := evs_full hi8 hrun
                        exact crash_gen h g
                      obtain rfl : jj = Lp.length := by
                        rw [HLn.out]
                        rcases evs_take hi8 hrun hjj with ⟨q, _⟩ | ⟨_, _, h⟩
                        · exact q
                        · exact absurd hg h
                      clear hP hrun hjj hg
                      go_wp2_with fail
                      exact HR.out _ _ ⟨rfl, N40.out.same N42.out⟩
end Go.Proofs.YtlcepoagpocadaaGreatDoor
