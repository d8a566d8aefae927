import Derived.Test.YtdengmlidckkeaaGreatDoorPkE
set_option linter.unusedSimpArgs false
set_option linter.unusedVariables false
namespace Go.Proofs.YtdengmlidckkeaaGreatDoor
open Go Go.RowKit
/-- What Read hands back. -/
def readV (l : List UInt8) : Value := match gOrd l with
  | none => .tuple #[.nilIface, .int .i64 0, .int .i64 3]
  | some (o, r) => .tuple #[ordW o, .int .i64 ((l.length : Int) - r.length), .int .i64 0]
set_option maxRecDepth 10000 in
set_option maxHeartbeats 1000000 in
theorem read_all (l : List UInt8) (hl : l.length ≤ 1000000) (w : World) :
    Calls Tryz.prog 27 #[.string ⟨l.toArray⟩] w fun e w' => e = .returned (readV l) ∧ Same w w' := by
  refine opq fun Rr HR => ?_
  have HOf := Lib.hid (of_any l w)
  have hbs := bytes_size l
  have ok0 : ES.ok 13 ⟨l, false, 0, false⟩ := ⟨hl, by show (0 : Int) ≤ 0; omega, by show (0 : Int) + _ ≤ _; omega⟩
  have OK0 := Lib.hid ok0
  have inv0 : ES.inv (l.length : Int) ⟨l, false, 0, false⟩ := ⟨fun _ => by show (0 : Int) + l.length = _; omega, fun q => by cases q⟩
  have HI := Lib.hid (ord_inv inv0)
  have HGd := Lib.hid (ord_good ⟨l, false, 0, false⟩ ⟨rfl, rfl⟩)
  dsimp only at HGd
  clear ok0 inv0
  go_enter Tryz.func27, Tryz.ntmps27
  go_wp2_with fail
  refine HOf.out.mono ?_
  rintro e w1 ⟨rfl, hB, M1⟩
  have KB := Lib.hid hB
  have K1 := Lib.hid M1
  have hwl : w.heap.size < w1.heap.size := hB.lt
  clear M1 hB HOf
  go_wp2_with fail
  have HE := Lib.hid (show EyeA (w1.alloc (.cells #[rptr w.heap.size, .int .i64 0, .bool false] 124)) w1.heap.size w.heap.size ⟨l, false, 0, false⟩ from ⟨Blk.new w1 _ _, KB.out.alloc _, by omega⟩)
  have K3 := Lib.hid (K1.out.alloc (.cells #[rptr w.heap.size, .int .i64 0, .bool false] 124))
  generalize w1.alloc _ = W at *
  generalize hE : w1.heap.size = E at *
  generalize hR : w.heap.size = R at *
  have HO := Lib.hid (ord_all E R ⟨l, false, 0, false⟩ W HE.out (ok_less OK0.out (by decide)))
  unfold readV at HR
  generalize (ordS ⟨l, false, 0, false⟩).2 = s2 at *
  generalize (ordS ⟨l, false, 0, false⟩).1 = o2 at *
  obtain ⟨l2, sh2, u2, b2⟩ := s2
  generalize hv : optV o2 = v2 at *
  have HV := Lib.hid hv
  clear hv
  refine HO.out.mono ?_
  rintro e w2 ⟨rfl, h1, h2⟩
  have P2 := Lib.hid (K3.out.then_ h2 (fun i hi q => by rcases q with q | q <;> omega))
  have hc := h1.eye.cell
  have hlt := h1.eye.lt
  dsimp only at hc
  clear h1 h2 K3 HE KB K1 HO OK0
  have hi1 := HI.out.1
  have hi2 := HI.out.2
  dsimp only at hi1 hi2
  cases hg : gOrd l with
  | none =>
    rw [hg] at HR HGd
    dsimp only at HR HGd
    have hw := HGd.out
    clear hg HGd HI HV
    cases b2 with
    | true =>
      clear hi1 hi2 hw
      go_wp2
      exact HR.out _ _ ⟨rfl, P2.out⟩
    | false =>
      have hsh : sh2 = true := by
        rcases hw with h | h
        · exact h
        · cases h
      have hq : decide ((l.length : Int) < u2) = true := decide_eq_true (hi2 hsh)
      clear hi1 hi2 hw hsh
      go_wp2
      exact HR.out _ _ ⟨rfl, P2.out⟩
  | some p =>
    obtain ⟨o, r⟩ := p
    rw [hg] at HR HGd
    dsimp only at HR HGd
    obtain ⟨e1, e2, e3, e4⟩ := HGd.out
    dsimp only at e2 e3 e4
    subst e3 e4 e2
    have hu := hi1 rfl
    have hq : decide ((l.length : Int) < u2) = false := decide_eq_false (by omega)
    have hV : v2 = ordW o := by rw [← HV.out, e1]; rfl
    have HU := Lib.hid (show (l.length : Int) - (l2.length : Int) = u2 by omega)
    rw [HU.out, ← hV] at HR
    clear hi1 hi2 hu hV e1 HV HI hg HGd HU
    go_wp2_with fail
    go_big_quiet (fail)
    go_wp2
    exact HR.out _ _ ⟨rfl, P2.out.drewN _⟩
/-- What Parse hands back. -/
def ParseR (q : Option (List OW)) (w : World) (e : Ending) (w' : World) : Prop := (match q with
  | none => e = .returned (.tuple #[.slice none 0 0, .int .i64 3])
  | some L => ∃ a c, e = .returned (.tuple #[.slice a L.length c, .int .i64 0]) ∧ RowAt w' a (L.map ordW)) ∧ Same w w'
theorem optV_some (L : List OW) : (L.map some).map optV = L.map ordW := by rw [List.map_map]; rfl
theorem optV_one (o : Option OW) : (∃ T x, optV o = .iface T x) ∨ optV o = .nilIface := by
  cases o with
  | none => exact .inr rfl
  | some o => exact .inl (ordW_if o)
theorem vals_snoc (xs : List (Option OW)) (x : Option OW) : (xs ++ [x]).map optV = xs.map optV ++ [optV x] := by rw [List.map_append]; rfl
theorem info24 : (Tryz.prog.info? 24).map (fun i => (i.zero, i.size, i.bytes)) = some (some .nilIface, 1, 16) := by kernel_rfl
set_option maxRecDepth 10000 in
set_option maxHeartbeats 4000000 in
theorem parse_all (l : List UInt8) (hl : l.length ≤ 900000) (w : World) : Calls Tryz.prog 29 #[.string ⟨l.toArray⟩] w (ParseR (parseK l) w) := by
  refine opq fun Rr HR => ?_
  have HO := Lib.hid (open_any l w (by omega))
  unfold parseK at HR
  cases ho : openL l with
  | none =>
    rw [ho] at HO HR
    dsimp only at HO HR
    clear ho
    go_enter Tryz.func29, Tryz.ntmps29
    go_wp2_with fail
    refine HO.out.mono ?_
    rintro e w1 ⟨rfl, M1⟩
    have K1 := Lib.hid M1
    clear M1 HO
    go_wp2
    exact HR.out _ _ ⟨rfl, K1.out⟩
  | some t =>
    rw [ho] at HO HR
    dsimp only at HO HR
    have htl : t.length ≤ 900000 := by
      unfold openL at ho
      split at ho
      · cases ho
      · split at ho
        · cases ho; rw [List.length_take]; omega
        · cases ho
    have hbs := bytes_size t
    clear ho
    by_cases h2 : t.length < 2
    · rw [if_pos h2] at HR
      have hq : decide ((t.length : Int) < 2) = true := decide_eq_true (by omega)
      clear h2
      go_enter Tryz.func29, Tryz.ntmps29
      go_wp2_with fail
      refine HO.out.mono ?_
      rintro e w1 ⟨rfl, M1⟩
      have K1 := Lib.hid M1
      clear M1 HO
      go_wp2
      exact HR.out _ _ ⟨rfl, K1.out⟩
    · rw [if_neg h2] at HR
      have hq : decide ((t.length : Int) < 2) = false := decide_eq_false (by omega)
      have et := takeL_in false (show 2 ≤ t.length by omega)
      have hgb := lenS_lt ⟨t, false, 0, false⟩
      dsimp only at hgb
      rw [et] at hgb
      have hgl : lenS ⟨t, false, 0, false⟩ = gLen t := by unfold lenS gLen; rw [et]
      rw [hgl] at hgb
      have HGB := Lib.hid hgb
      obtain ⟨n, hn⟩ : ∃ n, gLen t = n := ⟨_, rfl⟩
      have HN := Lib.hid hn
      rw [hn] at HR HGB hgb
      obtain ⟨hn1, hn2⟩ := hgb
      have HT := Lib.hid (show ∀ R W, Blk W R (rcells t false) → Calls Tryz.prog 58 #[rptr R, .int .i64 2] W fun e w' => e = .returned (.int .u64 (n : Int)) ∧ Blk w' R (rcells (t.drop 2) false) ∧ Mod (fun i => i = R) W w' from fun R W hB => by
        have := get_any R t false 2 2 (by decide) W hB (by omega)
        rw [et] at this
        dsimp only at this
        rwa [← hn2] at this)
      have hi64 : IntKind.i64.wrap (n : Int) = (n : Int) := IntWalk.i64_in _ (by omega)
      clear et hgl hn hn2 HGB h2
      go_enter Tryz.func29, Tryz.ntmps29
      go_wp2_with fail
      refine HO.out.mono ?_
      rintro e w1 ⟨rfl, M1⟩
      have K1 := Lib.hid M1
      clear M1 HO
      go_wp2_with fail
      refine (of_any t _).mono ?_
      rintro e w2 ⟨rfl, hB, M2⟩
      have K2 := Lib.hid (K1.out.same M2)
      have hRl : w1.heap.size < w2.heap.size := hB.lt
      have KB := Lib.hid hB
      clear M2 hB
      go_wp2_with fail
      have E0 := Lib.hid (show EyeA (w2.alloc (.cells #[rptr w1.heap.size, .int .i64 0, .bool false] 124)) w2.heap.size w1.heap.size ⟨t, false, 0, false⟩ from ⟨Blk.new w2 _ _, KB.out.alloc _, by omega⟩)
      have K3 := Lib.hid (K2.out.alloc (.cells #[rptr w1.heap.size, .int .i64 0, .bool false] 124))
      have hEl := E0.out.eye.lt
      have hRw : w.heap.size ≤ w1.heap.size := K1.out.size
      have hEw : w.heap.size ≤ w2.heap.size := K2.out.size
      generalize w2.alloc _ = W at *
      generalize w2.heap.size = E at *
      generalize w1.heap.size = R at *
      refine (HT.out R W E0.out.rd).mono ?_
      rintro e w3 ⟨rfl, hB3, hM3⟩
      have E3 := Lib.hid (show EyeA w3 E R ⟨t.drop 2, false, 0, false⟩ from ⟨E0.out.eye.mod hM3 E0.out.ne, hB3, E0.out.ne⟩)
      have K4 := Lib.hid (K3.out.then_ hM3 (fun i hi (e : i = R) => by omega))
      have hE3 : E < w3.heap.size := E3.out.eye.lt
      have hR3 : R < w3.heap.size := E3.out.rd.lt
      clear hB3 hM3 HT E0 K3 K2 KB K1 hEl hRl
      by_cases h4 : 400 < n
      · rw [if_pos h4] at HR
        have hq4 : decide ((400 : Int) < (n : Int)) = true := decide_eq_true (by omega)
        clear h4
        go_wp2
        exact HR.out _ _ ⟨rfl, K4.out⟩
      · rw [if_neg h4] at HR
        have hq4 : decide ((400 : Int) < (n : Int)) = false := decide_eq_false (by omega)
        have hdl : (t.drop 2).length ≤ 900000 := by rw [List.length_drop]; omega
        have OK0 := Lib.hid (show ES.ok (7 * n + 7) ⟨t.drop 2, false, 0, false⟩ from ⟨by show (t.drop 2).length ≤ _; omega, by show (0 : Int) ≤ 0; omega, by show (0 : Int) + _ ≤ _; omega⟩)
        have HGd := Lib.hid (ords_good n ⟨t.drop 2, false, 0, false⟩ ⟨rfl, rfl⟩)
        dsimp only at HGd
        have HL5 := Lib.hid (fun k => ordsS_len k ⟨t.drop 2, false, 0, false⟩)
        have HLn := Lib.hid (fun L r => gOrds_len n (t.drop 2) L r)
        generalize t.drop 2 = td at *
        obtain ⟨s3, hs3⟩ : ∃ s3 : ES, s3 = ⟨td, false, 0, false⟩ := ⟨_, rfl⟩
        rw [← hs3] at E3 OK0 HGd HL5
        clear hs3 h4 hdl
        obtain ⟨i0, hi, hz0, hz1, hz2⟩ := info_parts info24
        have I0 := Lib.hid hi
        have Z0 := Lib.hid hz0
        have Z1 := Lib.hid hz1
        have Z2 := Lib.hid hz2
        clear hi hz0 hz1 hz2
        go_wp2_with fail
        go_loopw [34, 8] (fun i v wr => ∃ (k : Nat), k ≤ n ∧ i = .int .i64 k ∧ wr.ownsRow w3.heap.size 24 1 v k ((ordsS k s3).1.map optV) ∧ EyeA wr E R (ordsS k s3).2 ∧ Mod (fun i => i = E ∨ i = R) w3 wr) (fun i _ _ => n - (intOf i).toNat)
        case atStart => exact ⟨0, by omega, rfl, World.ownsRow_nil _ _ _ _, E3.out, Mod.refl _ _⟩
        case round =>
          obtain ⟨k, hk, rfl, hown, hes, hM⟩ := hrel
          have L1 := Lib.hid hown
          have L2 := Lib.hid hes
          have L3 := Lib.hid hM
          have hszr := hM.size
          clear hown hes hM
          by_cases hlt : k < n
          · have HOr := Lib.hid (ord_all E R (ordsS k s3).2 wr L2.out (ok_less (ords_ok k (c := 7) (ok_less OK0.out (by omega))) (by decide)))
            have ET := Lib.hid (vals_snoc (ordsS k s3).1 (ordS (ordsS k s3).2).1)
            have ES1 := Lib.hid (show ordsS (k + 1) s3 = ((ordsS k s3).1 ++ [(ordS (ordsS k s3).2).1], (ordS (ordsS k s3).2).2) from rfl)
            have HX := Lib.hid (optV_one (ordS (ordsS k s3).2).1)
            generalize hxv : optV (ordS (ordsS k s3).2).1 = xv at *
            clear hxv L2
            rcases HX.out with ⟨T, x, rfl⟩ | rfl
            · clear HX
              go_wp2_with fail
              refine HOr.out.mono ?_
              rintro e w4 ⟨rfl, h1, h2⟩
              have P1 := Lib.hid h1
              have P2 := Lib.hid (L3.out.trans h2)
              have P3 := Lib.hid (owns_mod L1.out h2 (fun i q => by rcases q with q | q <;> omega))
              have hsz4 : w3.heap.size ≤ w4.heap.size := P2.out.size
              clear h1 h2 L1 L3 HOr
              go_wp2_with (at_builtin; refine wpList_append_own _ rfl (.tmp 36) (.tmp 39) 49 rfl w3.heap.size 24 i0 .nilIface 1 16 Tryz.underlying49 I0.out Z0.out Z1.out Z2.out rfl (by decide) _ _ _ rfl (P3.out.alloc _) ⟨w4.heap.size, 0, none⟩ 1 1 [.iface T x] rfl rfl (one_new _ _ _) (fun u hu => (by simp at hu; subst hu; rfl)) (by unfold maxLen; omega) (by omega) (by simp only [World.size_alloc]; omega) ?_; intro v' w5 hown' hgrow _)
              have Q1 := Lib.hid (same_append P2.out P3.out hgrow)
              have Q2 := Lib.hid hown'
              have Q3 := Lib.hid (show EyeA w5 E R (ordS (ordsS k s3).2).2 from ⟨blk_append P1.out.eye hE3 P3.out hgrow, blk_append P1.out.rd hR3 P3.out hgrow, P1.out.ne⟩)
              clear hown' hgrow P1 P2 P3
              go_roundw
              case rel => exact ⟨k + 1, by omega, by go_num, by rw [ES1.out]; dsimp only; rw [ET.out]; exact Q2.out, by rw [ES1.out]; exact Q3.out, Q1.out⟩
              case measure => simp [intOf]; omega
            · clear HX
              go_wp2_with fail
              refine HOr.out.mono ?_
              rintro e w4 ⟨rfl, h1, h2⟩
              have P1 := Lib.hid h1
              have P2 := Lib.hid (L3.out.trans h2)
              have P3 := Lib.hid (owns_mod L1.out h2 (fun i q => by rcases q with q | q <;> omega))
              have hsz4 : w3.heap.size ≤ w4.heap.size := P2.out.size
              clear h1 h2 L1 L3 HOr
              go_wp2_with (at_builtin; refine wpList_append_own _ rfl (.tmp 36) (.tmp 39) 49 rfl w3.heap.size 24 i0 .nilIface 1 16 Tryz.underlying49 I0.out Z0.out Z1.out Z2.out rfl (by decide) _ _ _ rfl (P3.out.alloc _) ⟨w4.heap.size, 0, none⟩ 1 1 [.nilIface] rfl rfl (one_new _ _ _) (fun u hu => (by simp at hu; subst hu; rfl)) (by unfold maxLen; omega) (by omega) (by simp only [World.size_alloc]; omega) ?_; intro v' w5 hown' hgrow _)
              have Q1 := Lib.hid (same_append P2.out P3.out hgrow)
              have Q2 := Lib.hid hown'
              have Q3 := Lib.hid (show EyeA w5 E R (ordS (ordsS k s3).2).2 from ⟨blk_append P1.out.eye hE3 P3.out hgrow, blk_append P1.out.rd hR3 P3.out hgrow, P1.out.ne⟩)
              clear hown' hgrow P1 P2 P3
              go_roundw
              case rel => exact ⟨k + 1, by omega, by go_num, by rw [ES1.out]; dsimp only; rw [ET.out]; exact Q2.out, by rw [ES1.out]; exact Q3.out, Q1.out⟩
              case measure => simp [intOf]; omega
          · obtain rfl : k = n := by omega
            generalize hsn : ordsS k s3 = sn at *
            clear hsn
            obtain ⟨vs, l5, sh5, u5, b5⟩ := sn
            dsimp only at L1 L2 HGd
            have hc := L2.out.eye.cell
            have hl := L2.out.eye.lt
            have HE := Lib.hid (end_any R l5 sh5 wr L2.out.rd)
            dsimp only at hc
            obtain ⟨va, vc, rfl⟩ := owns_slice L1.out
            have P0 := Lib.hid (K4.out.then_ L3.out (fun i hi q => by rcases q with q | q <;> omega))
            clear E3 L2 L3 K4
            cases hg : gOrds k td with
            | none =>
              rw [hg] at HR HGd
              dsimp only at HR HGd
              have hw := HGd.out
              clear hg HGd L1
              cases b5 with
              | true =>
                clear hw HE
                go_wp2
                exact HR.out _ _ ⟨rfl, P0.out⟩
              | false =>
                have hsh : sh5 = true := by
                  rcases hw with h | h
                  · exact h
                  · cases h
                rw [if_neg (by rw [hsh]; simp)] at HE
                clear hw hsh
                go_wp2_with fail
                refine HE.out.mono ?_
                rintro e w4 ⟨rfl, M4⟩
                have P1 := Lib.hid (P0.out.same M4)
                clear M4 P0 HE
                go_wp2
                exact HR.out _ _ ⟨rfl, P1.out⟩
            | some p =>
              obtain ⟨L, r⟩ := p
              rw [hg] at HR HGd
              dsimp only at HR HGd
              obtain ⟨e1, e2, e3, e4⟩ := HGd.out
              dsimp only at e2 e3 e4
              subst e3 e4 e2 e1
              have hLn := (HLn.out L l5 hg).1
              clear hg HGd HL5
              cases l5 with
              | nil =>
                rw [if_pos ⟨rfl, rfl⟩] at HE
                dsimp only at HR
                rw [optV_some] at L1
                have HLN := Lib.hid hLn
                unfold ParseR at HR
                dsimp only at HR
                rw [hLn] at HR
                clear hLn
                go_wp2_with fail
                refine HE.out.mono ?_
                rintro e w4 ⟨rfl, M4⟩
                have P1 := Lib.hid (P0.out.same M4)
                have P2 := Lib.hid (owns_same L1.out M4)
                clear M4 L1 P0 hc hl HE
                go_wp2
                refine HR.out _ _ ⟨⟨va, vc, rfl, fun q => ?_⟩, P1.out⟩
                rw [List.length_map, HLN.out] at q
                obtain ⟨g, cap, hv, hg0, hgc, hrow⟩ := RowV.of_owns P2.out q
                cases hv
                refine ⟨g, 0, rfl, hrow.lt, fun i p hp => ?_⟩
                have hi : i < (L.map ordW).length := (List.getElem?_eq_some_iff.1 hp).1
                rw [List.length_map, HLN.out] at hi
                rw [Nat.zero_add]
                refine (hrow.cell i (by omega)).trans ?_
                rw [List.getD_eq_getElem?_getD, hp]; rfl
              | cons c l6 =>
                rw [if_neg (by simp)] at HE
                dsimp only at HR
                clear hLn L1
                go_wp2_with fail
                refine HE.out.mono ?_
                rintro e w4 ⟨rfl, M4⟩
                have P1 := Lib.hid (P0.out.same M4)
                clear M4 P0 HE
                go_wp2
                exact HR.out _ _ ⟨rfl, P1.out⟩
end Go.Proofs.YtdengmlidckkeaaGreatDoor
namespace Go.Proofs.YtdengmlidckkeaaGreatDoor
open Go Go.RowKit
/-- The order of a line, if it is short enough and one. -/
def pickO (l : List UInt8) : Option OW := if 3000 < l.length then none else parseL l
/-- The orders of lines. -/
def ordersL (ls : List (List UInt8)) : List OW := (ls.take 30).filterMap pickO
theorem pick_some (ls : List (List UInt8)) (j : Nat) (x : List UInt8) (hx : ls[j]? = some x) (o : OW) (h : pickO x = some o) : (ls.take (j + 1)).filterMap pickO = (ls.take j).filterMap pickO ++ [o] := by
  obtain ⟨hk, rfl⟩ := List.getElem?_eq_some_iff.1 hx
  rw [List.take_succ_eq_append_getElem hk, List.filterMap_append]
  simp [h]
theorem pick_none (ls : List (List UInt8)) (j : Nat) (x : List UInt8) (hx : ls[j]? = some x) (h : pickO x = none) : (ls.take (j + 1)).filterMap pickO = (ls.take j).filterMap pickO := by
  obtain ⟨hk, rfl⟩ := List.getElem?_eq_some_iff.1 hx
  rw [List.take_succ_eq_append_getElem hk, List.filterMap_append]
  simp [h]
theorem orders_len (ls : List (List UInt8)) : (ordersL ls).length ≤ 30 := by
  unfold ordersL
  have := List.length_filterMap_le pickO (ls.take 30)
  rw [List.length_take] at this; omega
theorem orders_form (ls : List (List UInt8)) : ∀ o ∈ ordersL ls, o.form ∧ o.fits = true := by
  intro o ho
  unfold ordersL at ho
  obtain ⟨l, _, hl⟩ := List.mem_filterMap.1 ho
  unfold pickO at hl
  split at hl
  · cases hl
  · exact parse_form hl
theorem ordV_snoc (xs : List OW) (x : OW) : (xs ++ [x]).map ordW = xs.map ordW ++ [ordW x] := by rw [List.map_append]; rfl
theorem owns_rowAt24 {w : World} {B n : Nat} {a : Option Addr} {c : Nat} {xs : List Value} (h : w.ownsRow B 24 1 (.slice a n c) n xs) : RowAt w a xs := by
  intro hp
  have hn : 0 < n := by have := h.1; omega
  obtain ⟨g, cap, hv, hb, hc, hrow⟩ := RowV.of_owns h hn
  injection hv with ha _ _
  refine ⟨g, 0, ha, hrow.lt, fun i v hi => ?_⟩
  have hl : i < xs.length := (List.getElem?_eq_some_iff.1 hi).1
  rw [Nat.zero_add]
  refine (hrow.cell i (by have := h.1; omega)).trans ?_
  rw [List.getD_eq_getElem?_getD, hi]; rfl
set_option maxRecDepth 10000 in
set_option maxHeartbeats 4000000 in
theorem orders_any (ls : List (List UInt8)) (a : Option Addr) (n c : Nat) (hn : ls.length = n) (w : World) (hL : LibOK w) (hr : RowAt w a (ls.map strV)) :
    Calls Tryz.prog 20 #[.slice a n c] w fun e w' => ∃ a' c', e = .returned (.slice a' (ordersL ls).length c') ∧ RowAt w' a' ((ordersL ls).map ordW) ∧ Same w w' := by
  refine opq fun R HR => ?_
  have HL := Lib.hid hL
  have HRw := Lib.hid hr
  have HN := Lib.hid hn
  clear hL hr hn
  obtain ⟨i0, hi, hz0, hz1, hz2⟩ := info_parts info24
  have I0 := Lib.hid hi
  have Z0 := Lib.hid hz0
  have Z1 := Lib.hid hz1
  have Z2 := Lib.hid hz2
  clear hi hz0 hz1 hz2
  go_enter Tryz.func20, Tryz.ntmps20
  go_wp2_with fail
  go_loopw [3, 4, 5, 6] (fun v i _ _ wr => ∃ (j m : Nat), j ≤ n ∧ j ≤ 30 ∧ i = .int .i64 j ∧ m ≤ j ∧ wr.ownsRow w.heap.size 24 1 v m (((ls.take j).filterMap pickO).map ordW) ∧ Same w wr) (fun _ i _ _ _ => n - (intOf i).toNat)
  case atStart => exact ⟨0, 0, by omega, by omega, rfl, by omega, ⟨rfl, .inr ⟨_, 0, #[], rfl, Nat.le_refl _, heap_new _ _, Nat.le_refl _, by unfold maxLen; omega, rfl, rfl⟩⟩, (Mod.refl _ _).alloc _⟩
  case round =>
    obtain ⟨j, m, hj, hj30, rfl, hmj, hown, hM⟩ := hrel
    have K1 := Lib.hid hown
    have K2 := Lib.hid hM
    have hsz := hM.size
    clear hown hM
    by_cases hlt : j < n
    · by_cases h30 : j < 30
      · obtain ⟨x, hx⟩ : ∃ x, ls[j]? = some x := ⟨_, List.getElem?_eq_getElem (by rw [HN.out]; exact hlt)⟩
        obtain ⟨b, o0, rfl, hb, hcc⟩ := HRw.out (by rw [List.length_map, HN.out]; omega)
        have hcx := (K2.out.cell hb (fun q => q) (o0 + j)).trans (hcc j (strV x) (by rw [List.getElem?_map, hx]; rfl))
        unfold strV at hcx
        have hbs := bytes_size x
        have hbr : b < wr.heap.size := by omega
        have HX := Lib.hid hx
        clear hx hcc
        by_cases h3 : 3000 < x.length
        · have hq : decide ((3000 : Int) < (x.length : Int)) = true := decide_eq_true (by omega)
          have E := Lib.hid (pick_none ls j x HX.out (by unfold pickO; rw [if_pos h3]))
          clear h3
          go_wp2_with fail
          go_roundw
          case rel => exact ⟨j + 1, m, by omega, by omega, by go_num, by omega, by rw [E.out]; exact K1.out, K2.out⟩
          case measure => simp [intOf]; omega
        · have hq : decide ((3000 : Int) < (x.length : Int)) = false := decide_eq_false (by omega)
          have HP := Lib.hid (parse_any x (by omega) wr (HL.out.same K2.out))
          cases hp : parseL x with
          | none =>
            have E := Lib.hid (pick_none ls j x HX.out (by unfold pickO; rw [if_neg h3]; exact hp))
            rw [hp] at HP
            unfold ansP at HP
            dsimp only at HP
            clear h3 hp
            go_wp2_with fail
            refine HP.out.mono ?_
            rintro e w1 ⟨rfl, M1⟩
            have P1 := Lib.hid (owns_same K1.out M1)
            have P2 := Lib.hid (K2.out.same M1)
            clear M1 HP K1 K2 hcx
            go_wp2_with fail
            go_roundw
            case rel => exact ⟨j + 1, m, by omega, by omega, by go_num, by omega, by rw [E.out]; exact P1.out, P2.out⟩
            case measure => simp [intOf]; omega
          | some q =>
            have E := Lib.hid (pick_some ls j x HX.out q (by unfold pickO; rw [if_neg h3]; exact hp))
            rw [hp] at HP
            unfold ansP at HP
            dsimp only at HP
            have EV := Lib.hid (ordV_snoc ((ls.take j).filterMap pickO) q)
            obtain ⟨T, v, hv⟩ := ordW_if q
            rw [hv] at HP EV
            clear h3 hp hv
            go_wp2_with fail
            refine HP.out.mono ?_
            rintro e w1 ⟨rfl, M1⟩
            have P1 := Lib.hid (owns_same K1.out M1)
            have P2 := Lib.hid (K2.out.same M1)
            have hsz1 : w.heap.size ≤ w1.heap.size := P2.out.size
            clear M1 HP K1 K2 hcx
            go_wp2_with (at_builtin; refine wpList_append_own _ rfl (.tmp 34) (.tmp 36) 49 rfl w.heap.size 24 i0 .nilIface 1 16 Tryz.underlying49 I0.out Z0.out Z1.out Z2.out rfl (by decide) _ _ _ rfl (P1.out.alloc _) ⟨w1.heap.size, 0, none⟩ 1 1 [.iface T v] rfl rfl (one_new _ _ _) (fun u hu => (by simp at hu; subst hu; rfl)) (by unfold maxLen; omega) (by omega) (by simp only [World.size_alloc]; omega) ?_; intro v' w3 hown' hgrow _)
            have Q1 := Lib.hid (same_append P2.out P1.out hgrow)
            have Q2 := Lib.hid hown'
            clear hown' hgrow P1 P2
            go_roundw
            case rel => exact ⟨j + 1, m + 1, by omega, by omega, by go_num, by omega, by rw [E.out, EV.out]; exact Q2.out, Q1.out⟩
            case measure => simp [intOf]; omega
      · obtain rfl : j = 30 := by omega
        obtain ⟨va, vc, rfl⟩ := owns_slice K1.out
        have hl := K1.out.1
        rw [List.length_map, Nat.mul_one] at hl
        have HL2 := Lib.hid (show (ordersL ls).length = m from hl)
        rw [HL2.out] at HR
        clear hl
        go_wp2
        exact HR.out _ _ ⟨va, vc, rfl, owns_rowAt24 K1.out, K2.out⟩
    · obtain rfl : j = n := by omega
      have e1 : ls.take j = ls.take 30 := by rw [List.take_of_length_le (by have := HN.out; omega), List.take_of_length_le (by have := HN.out; omega)]
      rw [e1] at K1
      obtain ⟨va, vc, rfl⟩ := owns_slice K1.out
      have hl := K1.out.1
      rw [List.length_map, Nat.mul_one] at hl
      have HL2 := Lib.hid (show (ordersL ls).length = m from hl)
      rw [HL2.out] at HR
      clear hl e1
      go_wp2
      exact HR.out _ _ ⟨va, vc, rfl, owns_rowAt24 K1.out, K2.out⟩
end Go.Proofs.YtdengmlidckkeaaGreatDoor
