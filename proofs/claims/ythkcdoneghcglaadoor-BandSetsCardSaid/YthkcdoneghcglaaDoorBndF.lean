import Derived.Test.YthkcdoneghcglaaDoorBndC
import Derived.Test.YthkcdoneghcglaaDoorScrN
set_option linter.unusedSimpArgs false
set_option linter.unusedVariables false
/- The program's numbers and runs; the document's numbers; the law's ints. -/
namespace Go.Proofs.YthkcdoneghcglaaDoor
open Go Go.RowKit
theorem ints_any (a1 a2 : Option Addr) (c1 c2 : Nat) (L : List Int) (w : World) (hl : L.length ≤ 4000000000) (hI1 : Ins w a1 L) (hI2 : Ins w a2 L) :
    Calls Tryd.prog 24 #[.slice a1 L.length c1, .slice a2 L.length c2] w fun e w' => e = .returned (.bool true) ∧ Same w w' := by
  refine opq fun R HR => ?_
  have H1 := Lib.hid hI1
  have H2 := Lib.hid hI2
  clear hI1 hI2
  obtain ⟨n, hn⟩ : ∃ n, L.length = n := ⟨_, rfl⟩
  rw [hn] at hl ⊢
  have HN := Lib.hid hn
  clear hn
  go_enter Tryd.func24, Tryd.ntmps24
  go_wp2_with fail
  go_loopw [5] (fun i wr => ∃ k : Nat, k ≤ n ∧ i = .int .i64 k ∧ Same w wr) (fun i _ => n - (intOf i).toNat)
  case atStart => exact ⟨0, by omega, rfl, Mod.refl _ _⟩
  case round =>
    obtain ⟨k, hk, rfl, M⟩ := hrel
    by_cases hlt : k < n
    · obtain ⟨b1, o1, rfl, hb1, hc1⟩ := H1.out (by rw [HN.out]; omega)
      obtain ⟨b2, o2, rfl, hb2, hc2⟩ := H2.out (by rw [HN.out]; omega)
      obtain ⟨x, hx⟩ : ∃ x, L[k]? = some x := ⟨_, List.getElem?_eq_getElem (by rw [HN.out]; exact hlt)⟩
      have x0 := (M.cell hb1 (fun q => q) _).trans (hc1 k x hx)
      have y0 := (M.cell hb2 (fun q => q) _).trans (hc2 k x hx)
      have J := Lib.hid M
      clear hc1 hc2 hx M
      go_wp2_with fail
      go_big_quiet (fail)
      go_wp2
      go_roundw
      case rel => exact ⟨k + 1, by omega, by go_num, J.out.drewN _⟩
      case measure => simp [intOf]; omega
    · obtain rfl : k = n := by omega
      have J := Lib.hid M
      clear M
      go_wp2
      exact HR.out _ _ ⟨rfl, J.out⟩
/-- What number hands back. -/
def NuV (p : List UInt8) (e : Ending) : Prop := match nB p with
  | some n => e = .returned (.tuple #[.int .i64 n, .bool true])
  | none => ∃ n, e = .returned (.tuple #[.int .i64 n, .bool false])
theorem atoi64 (s : ByteArray) (hs : s.size ≤ 1000000) (w : World) (h : LibOK w) (hno : ∀ v, Lib.atoiAll s.data.toList ≠ .ok v) :
    Calls Tryd.prog 58 #[.string s] w fun e w' => (∃ n N, e = .returned (.tuple #[.int .i64 n, .iface 129 (.pointer (some ⟨N, 0, none⟩))])) ∧ Same w w' := by
  cases e : Lib.atoiAll s.data.toList with
  | ok v => exact absurd e (hno v)
  | range =>
    obtain ⟨tp, p, q⟩ := h.rng
    refine (Any.strconv_Atoi_range_var Tryd.laysC172 s (by omega) e tp p w q).mono ?_
    rintro x w' ⟨N, rfl, _, _, hb⟩
    exact ⟨⟨_, N, rfl⟩, Same.of_below hb⟩
  | _ =>
    obtain ⟨tp, p, q⟩ := h.syn
    refine (Any.strconv_Atoi_syntax_var Tryd.laysC172 s (by omega) e tp p w q).mono ?_
    rintro x w' ⟨N, rfl, _, _, hb⟩
    exact ⟨⟨_, N, rfl⟩, Same.of_below hb⟩
theorem nB_of {p : List UInt8} {v : Int} (ha : Lib.atoiAll p = .ok v) : nB p = if Lib.itoa v = p ∧ 0 ≤ v ∧ v ≤ 9999 then some v else none := by
  unfold nB pNum
  rw [ha]
  dsimp only
  by_cases h : Lib.itoa v = p
  · rw [if_pos h]
    dsimp only
    by_cases h2 : 0 ≤ v ∧ v ≤ 9999
    · rw [if_pos h2, if_pos ⟨h, h2⟩]
    · rw [if_neg h2, if_neg (fun q => h2 q.2)]
  · rw [if_neg h, if_neg (fun q => h q.1)]
set_option maxRecDepth 10000 in
theorem bnum_any (p : List UInt8) (hp : p.length ≤ 1000000) (w : World) (hL : LibOK w) : Calls Tryd.prog 61 #[strV p] w fun e w' => NuV p e ∧ Same w w' := by
  refine opq fun R HR => ?_
  have HL := Lib.hid hL
  have hbp := bytes_size p
  unfold NuV at HR
  unfold strV
  rcases pNum_cases p with ⟨v, hv64, hav, hcase⟩ | ⟨hno, hpn⟩
  · have HA := Lib.hid (atoi_any ⟨p.toArray⟩ (by omega) w hL)
    rw [show (⟨p.toArray⟩ : ByteArray).data.toList = p from rfl, hav] at HA
    dsimp only at HA
    rw [nB_of hav] at HR
    clear hcase hav hL
    go_enter Tryd.func61, Tryd.ntmps61
    go_wp2_with fail
    refine HA.out.mono ?_
    rintro e w2 ⟨rfl, M⟩
    have K2 := Lib.hid M
    have HI := Lib.hid (itoa_any v hv64 w2 (HL.out.same M))
    clear M HA
    by_cases h0 : 0 ≤ v
    · by_cases h9 : v ≤ 9999
      · by_cases hq : Lib.itoa v = p
        · rw [if_pos ⟨hq, h0, h9⟩] at HR
          rw [hq] at HI
          clear hq
          go_wp2_with fail
          refine HI.out.mono ?_
          rintro e w3 ⟨rfl, M⟩
          have K3 := Lib.hid (K2.out.same M)
          clear M
          go_wp2
          exact HR.out _ _ ⟨rfl, K3.out⟩
        · rw [if_neg (fun q => hq q.1)] at HR
          have hq2 : (Lib.itoa v == p) = false := by simp [hq]
          clear hq
          go_wp2_with fail
          refine HI.out.mono ?_
          rintro e w3 ⟨rfl, M⟩
          have K3 := Lib.hid (K2.out.same M)
          clear M HI
          generalize Lib.itoa v = iv at *
          go_wp2
          exact HR.out _ _ ⟨⟨_, rfl⟩, K3.out⟩
      · rw [if_neg (fun q => h9 q.2.2)] at HR
        go_wp2
        exact HR.out _ _ ⟨⟨_, rfl⟩, K2.out⟩
    · rw [if_neg (fun q => h0 q.2.1)] at HR
      go_wp2
      exact HR.out _ _ ⟨⟨_, rfl⟩, K2.out⟩
  · have hn : nB p = none := by unfold nB; rw [hpn]
    rw [hn] at HR
    have HA := Lib.hid (atoi64 ⟨p.toArray⟩ (by omega) w hL hno)
    clear hno hpn hn hL
    go_enter Tryd.func61, Tryd.ntmps61
    go_wp2_with fail
    refine HA.out.mono ?_
    rintro e w2 ⟨⟨n, N, rfl⟩, M⟩
    have K2 := Lib.hid M
    clear M HA
    go_wp2
    exact HR.out _ _ ⟨⟨_, rfl⟩, K2.out⟩
/-- What run hands back. -/
def RuV (p : List UInt8) (e : Ending) : Prop := match runP p with
  | some q => e = .returned (.tuple #[.int .i64 q.1, .int .i64 q.2, .bool true])
  | none => ∃ a b, e = .returned (.tuple #[.int .i64 a, .int .i64 b, .bool false])
theorem cutB_any (l : List UInt8) (hl : l.length ≤ 1000000) (w : World) (hL : LibOK w) : Calls Tryd.prog 41 #[strV l, .string ⟨#[226, 128, 166]⟩] w fun e w' => e = .returned (.tuple #[strV (Lib.cut l thru).1, strV (Lib.cut l thru).2.1, .bool (Lib.cut l thru).2.2]) ∧ Same w w' := by
  obtain ⟨m, hm⟩ := hL.mx
  refine (Tryd.strings_Cut ⟨l.toArray⟩ ⟨#[226, 128, 166]⟩ m w (by rw [bytes_size]; omega) hm).mono ?_
  rintro e w' ⟨rfl, n, rfl⟩
  exact ⟨rfl, (Mod.refl _ _).drewN _⟩
theorem cut_len (s : List UInt8) : (Lib.cut s thru).1.length ≤ s.length ∧ (Lib.cut s thru).2.1.length ≤ s.length := by
  unfold Lib.cut
  split
  · exact ⟨by simp; omega, by simp⟩
  · exact ⟨Nat.le_refl _, by simp⟩
set_option maxRecDepth 10000 in
theorem brun_any (p : List UInt8) (hp : p.length ≤ 1000000) (w : World) (hL : LibOK w) : Calls Tryd.prog 48 #[strV p] w fun e w' => RuV p e ∧ Same w w' := by
  refine opq fun R HR => ?_
  have HL := Lib.hid hL
  have HC := Lib.hid (cutB_any p hp w hL)
  have hcl := cut_len p
  unfold RuV runP at HR
  clear hL
  generalize hq : Lib.cut p thru = q at *
  obtain ⟨x, y, b⟩ := q
  dsimp only at HC hcl
  have HX := Lib.hid (fun (w : World) (hL : LibOK w) => bnum_any x (by omega) w hL)
  have HY := Lib.hid (fun (w : World) (hL : LibOK w) => bnum_any y (by omega) w hL)
  unfold NuV at HX HY
  unfold strV at *
  clear hq
  go_enter Tryd.func48, Tryd.ntmps48
  go_wp2_with fail
  refine HC.out.mono ?_
  rintro e w1 ⟨rfl, M⟩
  have K1 := Lib.hid M
  clear M HC
  cases b with
  | false =>
    dsimp only at HR
    cases hx : nB x with
    | none =>
      rw [hx] at HX HR
      dsimp only at HX HR
      go_wp2_with fail
      refine (HX.out _ (HL.out.same K1.out)).mono ?_
      rintro e w2 ⟨⟨n, rfl⟩, M⟩
      have K2 := Lib.hid (K1.out.same M)
      clear M
      go_wp2
      exact HR.out _ _ ⟨⟨_, _, rfl⟩, K2.out⟩
    | some n =>
      rw [hx] at HX HR
      dsimp only at HX HR
      go_wp2_with fail
      refine (HX.out _ (HL.out.same K1.out)).mono ?_
      rintro e w2 ⟨rfl, M⟩
      have K2 := Lib.hid (K1.out.same M)
      clear M
      go_wp2
      exact HR.out _ _ ⟨rfl, K2.out⟩
  | true =>
    dsimp only at HR
    cases hx : nB x with
    | none =>
      rw [hx] at HX HR
      dsimp only at HX HR
      go_wp2_with fail
      refine (HX.out _ (HL.out.same K1.out)).mono ?_
      rintro e w2 ⟨⟨n, rfl⟩, M⟩
      have K2 := Lib.hid (K1.out.same M)
      clear M
      cases hy : nB y with
      | none =>
        rw [hy] at HY
        dsimp only at HY
        go_wp2_with fail
        refine (HY.out _ (HL.out.same K2.out)).mono ?_
        rintro e w3 ⟨⟨n2, rfl⟩, M⟩
        have K3 := Lib.hid (K2.out.same M)
        clear M
        go_wp2
        exact HR.out _ _ ⟨⟨_, _, rfl⟩, K3.out⟩
      | some n2 =>
        have hn2 := nB_some hy
        rw [hy] at HY
        dsimp only at HY
        go_wp2_with fail
        refine (HY.out _ (HL.out.same K2.out)).mono ?_
        rintro e w3 ⟨rfl, M⟩
        have K3 := Lib.hid (K2.out.same M)
        clear M
        go_wp2
        exact HR.out _ _ ⟨⟨_, _, rfl⟩, K3.out⟩
    | some n =>
      have hn := nB_some hx
      rw [hx] at HX HR
      dsimp only at HX HR
      go_wp2_with fail
      refine (HX.out _ (HL.out.same K1.out)).mono ?_
      rintro e w2 ⟨rfl, M⟩
      have K2 := Lib.hid (K1.out.same M)
      clear M
      cases hy : nB y with
      | none =>
        rw [hy] at HY HR
        dsimp only at HY HR
        go_wp2_with fail
        refine (HY.out _ (HL.out.same K2.out)).mono ?_
        rintro e w3 ⟨⟨n2, rfl⟩, M⟩
        have K3 := Lib.hid (K2.out.same M)
        clear M
        go_wp2
        exact HR.out _ _ ⟨⟨_, _, rfl⟩, K3.out⟩
      | some n2 =>
        have hn2 := nB_some hy
        rw [hy] at HY HR
        dsimp only at HY HR
        go_wp2_with fail
        refine (HY.out _ (HL.out.same K2.out)).mono ?_
        rintro e w3 ⟨rfl, M⟩
        have K3 := Lib.hid (K2.out.same M)
        clear M
        by_cases hab : n < n2
        · rw [if_pos hab] at HR
          go_wp2
          exact HR.out _ _ ⟨by simp [hab], K3.out⟩
        · rw [if_neg hab] at HR
          go_wp2
          exact HR.out _ _ ⟨⟨n, n2, by simp [hab]⟩, K3.out⟩
end Go.Proofs.YthkcdoneghcglaaDoor
