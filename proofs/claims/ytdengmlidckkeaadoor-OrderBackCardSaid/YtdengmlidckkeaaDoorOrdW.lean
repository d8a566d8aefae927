import Derived.Test.YtdengmlidckkeaaDoorOrdV
set_option linter.unusedSimpArgs false
set_option linter.unusedVariables false
namespace Go.Proofs.YtdengmlidckkeaaDoor
open Go Go.RowKit
/-- A digit, as it is told: wide or not. -/
def wcP (p : Bool × UInt8) : List UInt8 := if p.1 then [239, 188, 144 + p.2 - 48] else [p.2]
def wcOK (p : Bool × UInt8) : Prop := p.2.toNat < 128 ∧ p.2 ≠ 32 ∧ (p.1 = true → 48 ≤ p.2.toNat ∧ p.2.toNat ≤ 57)
theorem wide_val (c : UInt8) (h1 : 48 ≤ c.toNat) (h2 : c.toNat ≤ 57) : (144 + c - 48).toNat = 96 + c.toNat := by
  rw [UInt8.toNat_sub_of_le, UInt8.toNat_add]
  · simp; omega
  · rw [UInt8.le_iff_toNat_le, UInt8.toNat_add]; simp; omega
theorem plain_pieces : ∀ ps : List (Bool × UInt8), (∀ p ∈ ps, wcOK p) → plainL (ps.flatMap wcP) = ps.map Prod.snd
  | [], _ => rfl
  | (true, c) :: r, h => by
    have hc := h (true, c) (by simp)
    obtain ⟨h1, h2⟩ := hc.2.2 rfl
    dsimp only at h1 h2
    have ih := plain_pieces r fun p hp => h p (by simp [hp])
    have hw := wide_val c h1 h2
    have hwide : isWide 239 188 (144 + c - 48) = true := (wide_iff _ _ _).2 ⟨rfl, rfl, by rw [hw]; omega, by rw [hw]; omega⟩
    have e : (48 + (144 + c - 48) - 144 : UInt8) = c := by
      apply UInt8.toNat.inj
      rw [UInt8.toNat_sub_of_le, UInt8.toNat_add, hw]
      · simp; omega
      · rw [UInt8.le_iff_toNat_le, UInt8.toNat_add, hw]; simp; omega
    show plainL (239 :: 188 :: (144 + c - 48) :: r.flatMap wcP) = c :: r.map Prod.snd
    rw [plainL, if_pos hwide, ih, e]
  | (false, c) :: r, h => by
    have hc := h (false, c) (by simp)
    have ih := plain_pieces r fun p hp => h p (by simp [hp])
    show plainL (c :: r.flatMap wcP) = c :: r.map Prod.snd
    rw [plainL_cons c _ (fun y z r' _ => by
      cases e : isWide c y z with
      | false => rfl
      | true => have := (wide_iff c y z).1 e; have h2 := hc.1; dsimp only at h2; omega), ih]
theorem pieces_nb (ps : List (Bool × UInt8)) (h : ∀ p ∈ ps, wcOK p) : ∀ c ∈ ps.flatMap wcP, c ≠ 32 := by
  intro c hc
  obtain ⟨⟨b, d⟩, hp, hm⟩ := List.mem_flatMap.1 hc
  have hk := h _ hp
  cases b with
  | false => simp only [wcP] at hm; simp at hm; subst hm; exact hk.2.1
  | true =>
    obtain ⟨h1, h2⟩ := hk.2.2 rfl
    have hw := wide_val d h1 h2
    simp only [wcP] at hm; simp at hm
    rcases hm with rfl | rfl | rfl
    · decide
    · decide
    · intro e; rw [e] at hw; simp at hw; omega
theorem pieces_len : ∀ ps : List (Bool × UInt8), (ps.flatMap wcP).length ≤ 3 * ps.length
  | [] => Nat.le_refl _
  | (b, c) :: r => by
    have := pieces_len r
    rw [List.flatMap_cons, List.length_append, List.length_cons]
    have : (wcP (b, c)).length ≤ 3 := by cases b <;> simp [wcP]
    omega
/-- The order of a tick. -/
def oT (n : Int) : OW := ⟨10, [n], []⟩
theorem oT_form (n : Int) (hn : I64 n) : (oT n).form := ⟨show 10 < 15 by decide, rfl, rfl, fun m hm => by unfold oT at hm; simp at hm; subst hm; exact hn⟩
theorem oT_text (n : Int) : textO (oT n) = [116, 105, 99, 107, 32] ++ Lib.itoa n := by
  unfold textO oT
  simp only [List.map_cons, List.map_nil, List.append_nil]
  rw [Lib.join_cons]; unfold Lib.joinTail; simp; rfl
theorem parse_tick (n : Int) (t : List UInt8) (h : num t = (n, true)) (hb : ∀ c ∈ t, c ≠ 32) : parseL ([116, 105, 99, 107, 32] ++ t) = some (oT n) := by
  have e : spl ([116, 105, 99, 107, 32] ++ t) = [wordL 10, t] := by
    show spl (wordL 10 ++ 32 :: t) = _
    rw [spl_app _ _ (word_nb 10), spl_word t hb]
  unfold parseL
  rw [e]
  unfold parseW
  simp only [rdNext]
  rw [kind_word 10 (by decide)]
  have e2 : rdKind 10 ([t], false) = (oT n, ([], false)) := by
    show ((⟨10, [(num t).1], []⟩ : OW), (([] : List (List UInt8)), false || !(num t).2)) = _
    rw [h]; rfl
  simp only [e2]; rfl
theorem itoa_ok (n : Int) (hn : I64 n) : ∀ c ∈ Lib.itoa n, c.toNat < 128 ∧ c ≠ 32 ∧ (c.toNat ≠ 45 → 48 ≤ c.toNat ∧ c.toNat ≤ 57) := by
  intro c hc
  have key : ∀ u, ∀ c ∈ Lib.decDigits u, 48 ≤ c.toNat ∧ c.toNat ≤ 57 := by
    intro u c hc
    have h := (dec_digits u).1
    unfold digitsOnly at h
    have := List.all_eq_true.1 h c hc
    unfold isDigit at this
    simpa using this
  refine ⟨?_, itoa_nb n c hc, fun h45 => ?_⟩
  · have := List.all_eq_true.1 (itoa_asc n) c hc; exact of_decide_eq_true this
  · by_cases h : n < 0
    · rw [itoa_neg n h, List.mem_cons] at hc
      rcases hc with rfl | hc
      · exact absurd rfl h45
      · exact key _ c hc
    · rw [itoa_pos n h] at hc; exact key _ c hc
theorem conv3 (w : World) (x y z : Int) : (convert 39 9 (.slice (some ⟨w.heap.size, 0, none⟩) 3 3)).run Tryd.prog (w.alloc (.cells #[.int .u8 x, .int .u8 y, .int .u8 z] 5)) = .ok (.string (strOfNums [x, y, z])) (w.alloc (.cells #[.int .u8 x, .int .u8 y, .int .u8 z] 5)) := by
  refine run_convert_bytes_arg (P := Tryd.prog) _ 39 5 Tryd.underlying39 Tryd.underlying5 w.heap.size 0 3 3 [x, y, z] rfl ?_ 9 Tryd.underlying9
  intro i hi
  have : i = 0 ∨ i = 1 ∨ i = 2 := by omega
  rcases this with rfl | rfl | rfl <;> simp
theorem ext5 (l : List UInt8) : (⟨([116, 105, 99, 107, 32] ++ l).toArray⟩ : ByteArray).extract 5 (5 + l.length) = ⟨l.toArray⟩ := by
  apply ByteArray.ext
  rw [ByteArray.data_extract]
  apply Array.ext'
  simp [Array.toList_extract, List.extract_eq_take_drop]
set_option maxRecDepth 10000 in
set_option maxHeartbeats 2000000 in
theorem orderWide_walk (n mask : Int) (hn : I64 n) (w : World) (hL : LibOK w) : Calls Tryd.prog 5 #[.int .i64 n, .int .i64 mask] w fun e w' => e = .returned (.bool true) ∧ Same w w' := by
  refine opq fun R HR => ?_
  have HL := Lib.hid hL
  have HA := Lib.hid (awake20_any w hL)
  obtain ⟨d, hd⟩ : ∃ d, Lib.itoa n = d := ⟨_, rfl⟩
  have hdl : d.length ≤ 21 := by rw [← hd]; exact Lib.itoa_length_le n hn.1 hn.2
  have hd0 : 0 < d.length := by
    rw [← hd]
    rcases Nat.eq_zero_or_pos (Lib.itoa n).length with q | q
    · exfalso
      have := List.length_eq_zero_iff.1 q
      by_cases h : n < 0
      · rw [itoa_neg n h] at this; cases this
      · rw [itoa_pos n h] at this; exact dec_ne _ this
    · exact q
  have HD := Lib.hid (show ∀ c ∈ d, c.toNat < 128 ∧ c ≠ 32 ∧ (c.toNat ≠ 45 → 48 ≤ c.toNat ∧ c.toNat ≤ 57) from hd ▸ itoa_ok n hn)
  have H1 := Lib.hid (fun (w : World) (hL : LibOK w) => show Calls Tryd.prog 15 #[.iface 26 (.agg #[.int .i64 n])] w fun e w' => e = .returned (.tuple #[.string ⟨([116, 105, 99, 107, 32] ++ d).toArray⟩, .int .i64 0]) ∧ Same w w' by
    have := text_ok (oT n) (oT_form n hn) rfl w hL.tab
    rw [oT_text, hd] at this; exact this)
  have H2 := Lib.hid (fun (t : List UInt8) (h : plainL t = d) (w : World) (hL : LibOK w) (ht : t.length ≤ 100) => show Calls Tryd.prog 11 #[.string ⟨t.toArray⟩] w fun e w' => e = .returned (.tuple #[.int .i64 n, .bool true]) ∧ Same w w' by
    have := number_any ⟨t.toArray⟩ (by rw [bytes_size]; omega) w hL.vars
    rw [show numberL ⟨t.toArray⟩ = (n, true) from num_plain t n hn (h.trans hd.symm)] at this; exact this)
  have H3 := Lib.hid (fun (t : List UInt8) (h : plainL t = d) (hb : ∀ c ∈ t, c ≠ 32) (w : World) (hL : LibOK w) (ht : t.length ≤ 100) => show Calls Tryd.prog 16 #[.string ⟨([116, 105, 99, 107, 32] ++ t).toArray⟩] w fun e w' => e = .returned (.tuple #[.iface 26 (.agg #[.int .i64 n]), .int .i64 0]) ∧ Same w w' by
    have := parse_any ([116, 105, 99, 107, 32] ++ t) (by simp; omega) w hL
    rw [parse_tick n t (num_plain t n hn (h.trans hd.symm)) hb] at this; exact this)
  have H5 := Lib.hid (fun (w : World) (hL : LibOK w) => show Calls Tryd.prog 17 #[.iface 26 (.agg #[.int .i64 n]), .iface 26 (.agg #[.int .i64 n])] w fun e w' => e = .returned (.bool true) ∧ Same w w' from alike20_same (oT n) (oT_form n hn) rfl w hL)
  have hsz := bytes_size ([116, 105, 99, 107, 32] ++ d)
  have hszd := bytes_size d
  have hl5 : ([116, 105, 99, 107, 32] ++ d).length = 5 + d.length := by simp; omega
  rw [hl5] at hsz
  have he := ext5 d
  clear hL hd hl5
  generalize hS : (⟨([116, 105, 99, 107, 32] ++ d).toArray⟩ : ByteArray) = S at *
  have HS := Lib.hid hS
  clear hS
  go_enter Tryd.func5, Tryd.ntmps5
  go_wp2_with fail
  refine HA.out.mono ?_
  rintro e w1 ⟨rfl, M1⟩
  have K1 := Lib.hid M1
  clear M1 HA
  go_wp2_with fail
  refine (H1.out _ (HL.out.same K1.out)).mono ?_
  rintro e w2 ⟨rfl, M2⟩
  have K2 := Lib.hid (K1.out.same M2)
  clear M2 H1 K1
  go_wp2_with fail
  clear he hsz
  go_loopw [9, 7] (fun i t wr => ∃ (j : Nat) (ps : List (Bool × UInt8)), j ≤ d.length ∧ i = .int .i64 (j : Int) ∧ t = .string ⟨(ps.flatMap wcP).toArray⟩ ∧ ps.length = j ∧ ps.map Prod.snd = d.take j ∧ (∀ p ∈ ps, wcOK p) ∧ Same w2 wr) (fun i _ _ => d.length - (intOf i).toNat)
  case atStart => exact ⟨0, [], by omega, rfl, rfl, rfl, rfl, (fun p hp => by cases hp), Mod.refl _ _⟩
  case round =>
    obtain ⟨j, ps, hj, rfl, rfl, hpl, hps, hok, hM⟩ := hrel
    have L1 := Lib.hid hM
    have L2 := Lib.hid hps
    have L3 := Lib.hid hok
    have L4 := Lib.hid hpl
    have hbs := bytes_size (ps.flatMap wcP)
    have hpl3 := pieces_len ps
    rw [hpl] at hpl3
    clear hM hps hok hpl
    by_cases hlt : j < d.length
    · obtain ⟨x, hx⟩ : ∃ x, d[j]? = some x := ⟨_, List.getElem?_eq_getElem hlt⟩
      have kx := fun W => idx_any d j x hx (j : Int) rfl W
      have EX := Lib.hid (ext1 d j x hx)
      have es1 : ((⟨d.toArray⟩ : ByteArray).extract j (j + 1)).size = 1 := by rw [EX.out]; rfl
      have hxd := HD.out x (List.mem_of_getElem? hx)
      have HX := Lib.hid hxd
      have E1 := Lib.hid (fun (b : Bool) => show (ps ++ [(b, x)]).map Prod.snd = d.take (j + 1) by
        obtain ⟨hk, rfl⟩ := List.getElem?_eq_some_iff.1 hx
        rw [List.map_append, L2.out, List.take_succ_eq_append_getElem hk]; rfl)
      have E2 := Lib.hid (fun (b : Bool) (hb : b = true → 48 ≤ x.toNat ∧ x.toNat ≤ 57) => show ∀ p ∈ ps ++ [(b, x)], wcOK p by
        intro p hp
        rcases List.mem_append.1 hp with q | q
        · exact L3.out p q
        · rw [List.mem_singleton] at q; subst q; exact ⟨HX.out.1, HX.out.2.1, hb⟩)
      have E3 := Lib.hid (fun (b : Bool) => show (ps ++ [(b, x)]).flatMap wcP = ps.flatMap wcP ++ wcP (b, x) by rw [List.flatMap_append, List.flatMap_singleton])
      have E4 := Lib.hid (fun (b : Bool) => show (ps ++ [(b, x)]).length = j + 1 by rw [List.length_append, L4.out]; rfl)
      clear hx
      by_cases a1 : x.toNat = 45
      · have b1 : ((x.toNat : Int) != 45) = false := by rw [a1]; rfl
        clear hxd
        go_wp2_with fail
        go_roundw
        case rel => exact ⟨j + 1, ps ++ [(false, x)], by omega, by go_num, by rw [EX.out, str_app, E3.out]; rfl, E4.out _, E1.out _, E2.out false (fun q => by cases q), L1.out⟩
        case measure => simp [intOf]; omega
      · have b1 : ((x.toNat : Int) != 45) = true := bne_iff_ne.2 (by omega)
        obtain ⟨h48, h57⟩ := hxd.2.2 a1
        have e1 : IntKind.u8.wrap (144 + (x.toNat : Int)) = 144 + (x.toNat : Int) := by rw [u8wrap]; omega
        have e2 : IntKind.u8.wrap (144 + (x.toNat : Int) - 48) = 144 + (x.toNat : Int) - 48 := by rw [u8wrap]; omega
        have kc := fun (w : World) => conv3 w 239 188 (144 + (x.toNat : Int) - 48)
        have es : strOfNums [239, 188, 144 + (x.toNat : Int) - 48] = ⟨[239, 188, 144 + x - 48].toArray⟩ := by
          unfold strOfNums; simp only [List.map_cons, List.map_nil]; congr 2
          rw [show (144 + (x.toNat : Int) - 48).toNat = 96 + x.toNat by omega]
          have : (144 + x - 48 : UInt8) = UInt8.ofNat (96 + x.toNat) := by
            apply UInt8.toNat.inj
            rw [wide_val x h48 h57, UInt8.toNat_ofNat', Nat.mod_eq_of_lt (by omega)]
          rw [this]; rfl
        have ES := Lib.hid es
        have ess : (strOfNums [239, 188, 144 + (x.toNat : Int) - 48]).size = 3 := strOfNums_size _
        clear es hxd
        generalize strOfNums [239, 188, 144 + (x.toNat : Int) - 48] = sd at *
        go_wp2_with fail
        all_goals
          go_roundw
          case rel =>
            first
            | exact ⟨j + 1, ps ++ [(true, x)], by omega, by go_num, by rw [ES.out, str_app, E3.out]; rfl, E4.out _, E1.out _, E2.out true (fun q => ⟨h48, h57⟩), L1.out.alloc _⟩
            | exact ⟨j + 1, ps ++ [(false, x)], by omega, by go_num, by rw [EX.out, str_app, E3.out]; rfl, E4.out _, E1.out _, E2.out false (fun q => by cases q), L1.out⟩
          case measure => simp [intOf]; omega
    · obtain rfl : j = d.length := by omega
      have hpp := plain_pieces ps L3.out
      rw [L2.out, List.take_length] at hpp
      have HP := Lib.hid hpp
      have HNB := Lib.hid (pieces_nb ps L3.out)
      have K3 := Lib.hid (K2.out.same L1.out)
      have hlen : (ps.flatMap wcP).length ≤ 100 := by omega
      clear hpp L1 L2 L3 L4 hpl3
      generalize ps.flatMap wcP = t at *
      go_wp2_with fail
      refine (H2.out t HP.out _ (HL.out.same K3.out) hlen).mono ?_
      rintro e w4 ⟨rfl, M4⟩
      have K4 := Lib.hid (K3.out.same M4)
      clear M4 H2 K3
      have ea := str_app [116, 105, 99, 107, 32] t
      have hst : ((⟨#[116, 105, 99, 107, 32]⟩ : ByteArray) ++ ⟨t.toArray⟩) = ⟨([116, 105, 99, 107, 32] ++ t).toArray⟩ := ea
      have H3b := Lib.hid (H3.out t HP.out HNB.out)
      rw [← hst] at H3b
      clear ea hst
      go_wp2_with fail
      refine (H3b.out _ (HL.out.same K4.out) hlen).mono ?_
      rintro e w5 ⟨rfl, M5⟩
      have K5 := Lib.hid (K4.out.same M5)
      clear M5 H3 K4 H3b
      go_wp2_with fail
      refine (H5.out _ (HL.out.same K5.out)).mono ?_
      rintro e w6 ⟨rfl, M6⟩
      have K6 := Lib.hid (K5.out.same M6)
      clear M6 H5 K5
      go_wp2
      exact HR.out _ _ ⟨rfl, K6.out⟩
end Go.Proofs.YtdengmlidckkeaaDoor
