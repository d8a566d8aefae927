import Derived.Test.YtdengmlidckkeaaDoorOrdZB
set_option linter.unusedSimpArgs false
set_option linter.unusedVariables false
namespace Go.Proofs.YtdengmlidckkeaaDoor
open Go Go.RowKit
theorem lens_le (B : Nat) : ∀ (xs : List (List UInt8)), (∀ x ∈ xs, x.length ≤ B) → Lib.lens xs ≤ B * xs.length
  | [], _ => Nat.zero_le _
  | a :: l, h => by
    have h1 := h a (by simp)
    have h2 := lens_le B l fun x hx => h x (by simp [hx])
    unfold Lib.lens at *
    rw [List.map_cons, List.sum_cons, List.length_cons, Nat.mul_add]; omega
theorem text_len (o : OW) (hf : o.form) (hfit : o.fits = true) : (textO o).length ≤ 10000 := by
  have hj := hf.lt
  have hnl3 : o.ns.length ≤ 3 ∧ o.ts.length ≤ 3 := by
    have h1 := hf.nn
    have h2 := hf.nd
    have h3 : ∀ k, k < 15 → nN k ≤ 3 ∧ nD k ≤ 3 := by decide
    have := h3 o.k hj
    omega
  unfold textO
  rw [Lib.join_length]
  have hi : ∀ x ∈ (o.ns.map Lib.itoa ++ o.ts.map runesL), x.length ≤ 1600 := by
    intro x hx
    rcases List.mem_append.1 hx with q | q
    · obtain ⟨n, hn, rfl⟩ := List.mem_map.1 q
      have := hf.i64 n hn
      have := Lib.itoa_length_le n this.1 this.2
      omega
    · obtain ⟨t, ht, rfl⟩ := List.mem_map.1 q
      have := runes_le t
      have h2 := List.all_eq_true.1 hfit t ht
      have h3 : t.length ≤ 512 := of_decide_eq_true h2
      omega
  have hlen : (o.ns.map Lib.itoa ++ o.ts.map runesL).length ≤ 6 := by simp; omega
  have h1 := lens_le 1600 _ hi
  have hw : (wordL o.k).length ≤ 7 := by
    have : ∀ k, k < 15 → (wordL k).length ≤ 7 := by decide
    exact this _ hj
  have e : Lib.lens (wordL o.k :: (o.ns.map Lib.itoa ++ o.ts.map runesL)) = (wordL o.k).length + Lib.lens (o.ns.map Lib.itoa ++ o.ts.map runesL) := by unfold Lib.lens; rw [List.map_cons, List.sum_cons]
  rw [e, List.length_singleton]; omega
/-- A told order is read as it was. -/
theorem parse_told (o : OW) (hf : o.form) (hfit : o.fits = true) (w : World) (hL : LibOK w) : Calls Tryd.prog 16 #[.string ⟨(textO o).toArray⟩] w fun e w' => e = .returned (.tuple #[ordW o, .int .i64 0]) ∧ Same w w' := by
  have := parse_any (textO o) (by have := text_len o hf hfit; omega) w hL
  rw [parse_text o hf hfit] at this
  exact this
theorem ord_small (o : OW) (hf : o.form) : o.ns.length ≤ 1000 ∧ o.ts.length ≤ 1000 := by
  have h1 := hf.nn
  have h2 := hf.nd
  have h3 : ∀ k, k < 15 → nN k ≤ 3 ∧ nD k ≤ 3 := by decide
  have := h3 o.k hf.lt
  omega
/-- What form hands back of two orders, compared. -/
theorem same_ord (x y : OW) (fx : x.form) (fy : y.form) (a1 a2 b1 b2 : Option Addr) (c1 c2 d1 d2 : Nat) (w : World) (hn1 : RowAt w a1 (x.ns.map (Value.int .i64))) (hn2 : RowAt w a2 (y.ns.map (Value.int .i64))) (ht1 : RowAt w b1 (x.ts.map strV)) (ht2 : RowAt w b2 (y.ts.map strV)) :
    Calls Tryd.prog 19 #[.agg #[.int .i64 ((x.k : Int) + 1), .slice a1 (x.ns.map (Value.int .i64)).length c1, .slice b1 (x.ts.map strV).length d1], .agg #[.int .i64 ((y.k : Int) + 1), .slice a2 (y.ns.map (Value.int .i64)).length c2, .slice b2 (y.ts.map strV).length d2]] w fun e w' => e = .returned (.bool (decide (x = y))) ∧ Same w w' := by
  have h := same_any ((x.k : Int) + 1) ((y.k : Int) + 1) x.ns y.ns x.ts y.ts a1 a2 b1 b2 c1 c2 d1 d2 (ord_small x fx).1 (ord_small y fy).1 (ord_small x fx).2 (ord_small y fy).2 w hn1 hn2 ht1 ht2
  rw [sameO_eq] at h
  simp only [List.length_map]
  exact h
set_option maxRecDepth 10000 in
set_option maxHeartbeats 8000000 in
theorem orderBack_walk (z1 z2 a b c : Int) (s t line : List UInt8) (ha : I64 a) (hb : I64 b) (hc : I64 c) (w : World) (hL : LibOK w) :
    Calls Tryd.prog 6 #[.agg #[.int .i64 z1, .int .i64 z2], .int .i64 a, .int .i64 b, .int .i64 c, .string ⟨s.toArray⟩, .string ⟨t.toArray⟩, .string ⟨line.toArray⟩] w fun e w' => e = .returned (.bool true) ∧ Same w w' := by
  refine opq fun R HR => ?_
  have HL := Lib.hid hL
  have HA := Lib.hid (fun (w : World) (hL : LibOK w) => awake20_any w hL)
  have hss := bytes_size s
  have hst := bytes_size t
  have hsl := bytes_size line
  have S0 := Lib.hid ((Mod.refl (fun _ => False) w).alloc (.cells #[.int .i64 z1, .int .i64 z2] 46))
  have B0 := Lib.hid (Blk.new w #[.int .i64 z1, .int .i64 z2] 46)
  clear hL
  by_cases h512 : s.length ≤ 512 ∧ t.length ≤ 512 ∧ line.length ≤ 2048
  · obtain ⟨h1, h2, h3⟩ := h512
    have fx := made_form z1 a b c s t [] ha hb hc
    have fy := made_form z2 a c b t s [] ha hc hb
    have tx := made_fits z1 a b c s t [] h1 h2 (by simp)
    have ty := made_fits z2 a c b t s [] h2 h1 (by simp)
    have HM1 := Lib.hid (fun w => made_any z1 a b c s t [] w)
    have HM2 := Lib.hid (fun w => made_any z2 a c b t s [] w)
    have HPl := Lib.hid (fun (w : World) (hL : LibOK w) => parse_any line (by omega) w hL)
    have HPF := Lib.hid (fun q => @parse_form line q)
    generalize madeO z1 a b c s t [] = x at *
    generalize madeO z2 a c b t s [] = y at *
    have HT1 := Lib.hid (fun (w : World) (hL : LibOK w) => text_ok x fx tx w hL.tab)
    have HT2 := Lib.hid (fun (w : World) (hL : LibOK w) => text_ok y fy ty w hL.tab)
    have HF1 := Lib.hid (form_any x fx tx)
    have HF2 := Lib.hid (form_any y fy ty)
    have HPr := Lib.hid (parse_told x fx tx)
    have HAl := Lib.hid (alike20_same x fx tx)
    have HMu := Lib.hid (must_any x fx tx)
    have HSm := Lib.hid (same_ord x y fx fy)
    have hd : (textO x == textO y) = decide (x = y) := by
      by_cases h : x = y
      · subst h; simp
      · rw [decide_eq_false h]
        have : ¬ textO x = textO y := fun e => h (text_inj x y fx fy tx ty e)
        simpa using this
    have HX := Lib.hid fx
    have HY := Lib.hid fy
    clear fx fy tx ty ha hb hc
    generalize x.ns.map (Value.int .i64) = xn at *
    generalize y.ns.map (Value.int .i64) = yn at *
    generalize x.ts.map strV = xt at *
    generalize y.ts.map strV = yt at *
    generalize decide (x = y) = dxy at *
    obtain ⟨Tx, vx, hvx⟩ := ordW_iface x
    obtain ⟨Ty, vy, hvy⟩ := ordW_iface y
    rw [hvx] at HM1 HT1 HF1 HPr HAl HMu
    rw [hvy] at HM2 HT2 HF2
    clear hvx hvy
    generalize textO x = ux at *
    generalize textO y = uy at *
    unfold FormV at HF1 HF2
    generalize hxl : xn.length = xl at *
    generalize hyl : yn.length = yl at *
    generalize hxtl : xt.length = xtl at *
    generalize hytl : yt.length = ytl at *
    clear hxl hyl hxtl hytl
    go_enter Tryd.func6, Tryd.ntmps6
    go_wp2_with fail
    generalize w.alloc _ = W at *
    generalize hZ : w.heap.size = Z at *
    refine (HA.out _ (HL.out.same S0.out)).mono ?_
    rintro e w1 ⟨rfl, M1⟩
    have K1 := Lib.hid (S0.out.same M1)
    have hc1 := (B0.out.mod M1 (fun q => q)).cell
    clear M1 HA S0 B0
    go_wp2_with fail
    refine (HM1.out _).mono ?_
    rintro e w2 ⟨rfl, rfl⟩
    go_wp2_with fail
    refine (HM2.out _).mono ?_
    rintro e w3 ⟨rfl, rfl⟩
    clear hc1 HM1 HM2
    go_wp2_with fail
    refine (HT1.out _ (HL.out.same K1.out)).mono ?_
    rintro e w4 ⟨rfl, M4⟩
    have K4 := Lib.hid (K1.out.same M4)
    clear M4 K1 HT1
    go_wp2_with fail
    refine (HT2.out _ (HL.out.same K4.out)).mono ?_
    rintro e w5 ⟨rfl, M5⟩
    have K5 := Lib.hid (K4.out.same M5)
    clear M5 K4 HT2
    go_wp2_with fail
    refine (HF1.out _).mono ?_
    rintro e w6 ⟨a1, c1, b1, d1, rfl, r1, r2, M6⟩
    have K6 := Lib.hid (K5.out.same M6)
    have R1 := Lib.hid r1.row
    have R2 := Lib.hid r2.row
    clear M6 K5 HF1 r1 r2
    go_wp2_with fail
    refine (HF2.out _).mono ?_
    rintro e w7 ⟨a2, c2, b2, d2, rfl, r3, r4, M7⟩
    have K7 := Lib.hid (K6.out.same M7)
    have R1' := Lib.hid (R1.out.same M7)
    have R2' := Lib.hid (R2.out.same M7)
    have R3 := Lib.hid r3.row
    have R4 := Lib.hid r4.row
    clear M7 K6 HF2 r3 r4 R1 R2
    go_wp2_with fail
    refine (HSm.out _ _ _ _ _ _ _ _ _ R1'.out R3.out R2'.out R4.out).mono ?_
    rintro e w8 ⟨rfl, M8⟩
    have K8 := Lib.hid (K7.out.same M8)
    clear M8 K7 HSm R1' R2' R3 R4
    have hne : (dxy != dxy) = false := by simp
    go_wp2_with fail
    refine (HPr.out _ (HL.out.same K8.out)).mono ?_
    rintro e w9 ⟨rfl, M9⟩
    have K9 := Lib.hid (K8.out.same M9)
    clear M9 K8 HPr hd hne
    go_wp2_with fail
    refine (HAl.out _ (HL.out.same K9.out)).mono ?_
    rintro e w10 ⟨rfl, M10⟩
    have K10 := Lib.hid (K9.out.same M10)
    clear M10 K9
    go_wp2_with fail
    refine (HMu.out _).mono ?_
    rintro e w11 ⟨rfl, M11⟩
    have K11 := Lib.hid (K10.out.same M11)
    clear M11 K10
    go_wp2_with fail
    refine (HAl.out _ (HL.out.same K11.out)).mono ?_
    rintro e w12 ⟨rfl, M12⟩
    have K12 := Lib.hid (K11.out.same M12)
    clear M12 K11 HAl HMu
    go_wp2_with fail
    cases hq : parseL line with
    | none =>
      rw [hq] at HPl
      unfold ansP at HPl
      dsimp only at HPl
      clear hq
      refine (HPl.out _ (HL.out.same K12.out)).mono ?_
      rintro e w13 ⟨rfl, M13⟩
      have K13 := Lib.hid (K12.out.same M13)
      clear M13 K12 HPl
      go_wp2
      exact HR.out _ _ ⟨rfl, K13.out⟩
    | some q =>
      rw [hq] at HPl
      unfold ansP at HPl
      dsimp only at HPl
      obtain ⟨fq, tq⟩ := HPF.out q hq
      have HTq := Lib.hid (fun (w : World) (hL : LibOK w) => text_ok q fq tq w hL.tab)
      have HPq := Lib.hid (parse_told q fq tq)
      have HAq := Lib.hid (alike20_same q fq tq)
      obtain ⟨Tq, vq, hvq⟩ := ordW_iface q
      rw [hvq] at HPl HTq HPq HAq
      clear hq hvq fq tq HPF
      generalize textO q = uq at *
      refine (HPl.out _ (HL.out.same K12.out)).mono ?_
      rintro e w13 ⟨rfl, M13⟩
      have K13 := Lib.hid (K12.out.same M13)
      clear M13 K12 HPl
      go_wp2_with fail
      refine (HTq.out _ (HL.out.same K13.out)).mono ?_
      rintro e w14 ⟨rfl, M14⟩
      have K14 := Lib.hid (K13.out.same M14)
      clear M14 K13 HTq
      go_wp2_with fail
      refine (HPq.out _ (HL.out.same K14.out)).mono ?_
      rintro e w15 ⟨rfl, M15⟩
      have K15 := Lib.hid (K14.out.same M15)
      clear M15 K14 HPq
      go_wp2_with fail
      refine (HAq.out _ (HL.out.same K15.out)).mono ?_
      rintro e w16 ⟨rfl, M16⟩
      have K16 := Lib.hid (K15.out.same M16)
      clear M16 K15 HAq
      go_wp2
      exact HR.out _ _ ⟨rfl, K16.out⟩
  · by_cases h1 : s.length ≤ 512
    · by_cases h2 : t.length ≤ 512
      · have h3 : ¬ line.length ≤ 2048 := fun q => h512 ⟨h1, h2, q⟩
        clear h512
        have g1 : decide ((512 : Int) < (s.length : Int)) = false := decide_eq_false (by omega)
        have g2 : decide ((512 : Int) < (t.length : Int)) = false := decide_eq_false (by omega)
        have g3 : decide ((2048 : Int) < (line.length : Int)) = true := decide_eq_true (by omega)
        go_enter Tryd.func6, Tryd.ntmps6
        go_wp2_with fail
        refine (HA.out _ (HL.out.same S0.out)).mono ?_
        rintro e w1 ⟨rfl, M1⟩
        have K1 := Lib.hid (S0.out.same M1)
        clear M1 HA
        go_wp2
        exact HR.out _ _ ⟨rfl, K1.out⟩
      · clear h512
        have g1 : decide ((512 : Int) < (s.length : Int)) = false := decide_eq_false (by omega)
        have g2 : decide ((512 : Int) < (t.length : Int)) = true := decide_eq_true (by omega)
        go_enter Tryd.func6, Tryd.ntmps6
        go_wp2_with fail
        refine (HA.out _ (HL.out.same S0.out)).mono ?_
        rintro e w1 ⟨rfl, M1⟩
        have K1 := Lib.hid (S0.out.same M1)
        clear M1 HA
        go_wp2
        exact HR.out _ _ ⟨rfl, K1.out⟩
    · clear h512
      have g1 : decide ((512 : Int) < (s.length : Int)) = true := decide_eq_true (by omega)
      go_enter Tryd.func6, Tryd.ntmps6
      go_wp2_with fail
      refine (HA.out _ (HL.out.same S0.out)).mono ?_
      rintro e w1 ⟨rfl, M1⟩
      have K1 := Lib.hid (S0.out.same M1)
      clear M1 HA
      go_wp2
      exact HR.out _ _ ⟨rfl, K1.out⟩
end Go.Proofs.YtdengmlidckkeaaDoor
