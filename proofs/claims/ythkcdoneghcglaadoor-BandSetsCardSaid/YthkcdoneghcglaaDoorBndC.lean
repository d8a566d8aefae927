import Derived.Test.YthkcdoneghcglaaDoorBndB
import Derived.Test.YthkcdoneghcglaaDoorScrL
import Derived.Test.YthkcdoneghcglaaDoorScrQ
import Derived.BigQuiet
import Derived.Deep.QuietTactic
set_option linter.unusedSimpArgs false
set_option linter.unusedVariables false
/- Rows of numbers in memory; whether a list is a set. -/
namespace Go.Proofs.YthkcdoneghcglaaDoor
open Go Go.RowKit
/-- Numbers in memory. -/
def Ins (w : World) (a : Option Addr) (L : List Int) : Prop := 0 < L.length → ∃ b o, a = some ⟨b, o, none⟩ ∧ b < w.heap.size ∧ ∀ (i : Nat) (x : Int), L[i]? = some x → w.cell? ⟨b, o + i, none⟩ = some (.int .i64 x)
theorem Ins.same {w w' : World} {a : Option Addr} {L : List Int} (h : Ins w a L) (M : Same w w') : Ins w' a L := by
  intro hp
  obtain ⟨b, o, ha, hb, hc⟩ := h hp
  exact ⟨b, o, ha, Nat.lt_of_lt_of_le hb M.size, fun i x hx => (M.cell hb (fun q => q) _).trans (hc i x hx)⟩
theorem ins_own {w : World} {base : Nat} {ty : TypeId} {v : Value} {L : List Int} (h : w.ownsRow base ty 1 v L.length (L.map (Value.int .i64))) : ∃ a c, v = .slice a L.length c ∧ Ins w a L := by
  by_cases hp : 0 < L.length
  · obtain ⟨g, cap, hv, hb, hc, hr⟩ := RowV.of_owns h hp
    refine ⟨some ⟨g, 0, none⟩, cap, hv, fun _ => ⟨g, 0, rfl, hr.lt, fun i x hx => ?_⟩⟩
    have hi : i < L.length := (List.getElem?_eq_some_iff.1 hx).1
    rw [Nat.zero_add, hr.cell i (by omega), List.getD_eq_getElem?_getD, List.getElem?_map, hx]; rfl
  · have h0 : L.length = 0 := by omega
    rcases h.2 with ⟨hv, _⟩ | ⟨g, cap, cur, hv, _⟩
    · exact ⟨none, 0, by rw [hv, h0], fun q => absurd q hp⟩
    · exact ⟨some ⟨g, 0, none⟩, cap, hv, fun q => absurd q hp⟩
theorem igetD_of {L : List Int} {k : Nat} {x : Int} (h : L[k]? = some x) : L.getD k 0 = x := by rw [List.getD_eq_getElem?_getD, h]; rfl
theorem okI_zero {L : List Int} {x : Int} (h : L[0]? = some x) : okI L 0 = (decide (0 ≤ x) && decide (x ≤ 9999)) := by unfold okI; rw [igetD_of h]; simp
theorem okI_succ {L : List Int} {k : Nat} {x y : Int} (h : L[k + 1]? = some x) (h2 : L[k]? = some y) : okI L (k + 1) = (decide (0 ≤ x) && decide (x ≤ 9999) && decide (y < x)) := by
  unfold okI; rw [igetD_of h, show k + 1 - 1 = k from rfl, igetD_of h2]; simp
theorem okI_lo {L : List Int} {k : Nat} {x : Int} (h : L[k]? = some x) (hx : ¬ 0 ≤ x) : okI L k = false := by unfold okI; rw [igetD_of h, decide_eq_false hx]; rfl
theorem okI_hi {L : List Int} {k : Nat} {x : Int} (h : L[k]? = some x) (hx : ¬ x ≤ 9999) : okI L k = false := by unfold okI; rw [igetD_of h, decide_eq_false hx]; simp
theorem iok_next {L : List Int} {k : Nat} (h : ∀ j, j < k → okI L j = true) (hk : okI L k = true) : ∀ j, j < k + 1 → okI L j = true := by
  intro j hj
  by_cases e : j = k
  · subst e; exact hk
  · exact h j (by omega)
set_option maxHeartbeats 4000000 in
theorem isSet_any (a : Option Addr) (cap : Nat) (L : List Int) (w : World) (hl : L.length ≤ 4000000000) (hI : Ins w a L) :
    Calls Tryd.prog 45 #[.slice a L.length cap] w fun e w' => e = .returned (.bool (goodI L)) ∧ Same w w' := by
  refine opq fun R HR => ?_
  have HI := Lib.hid hI
  clear hI
  obtain ⟨n, hn⟩ : ∃ n, L.length = n := ⟨_, rfl⟩
  rw [hn] at hl ⊢
  have HN := Lib.hid hn
  clear hn
  go_enter Tryd.func45, Tryd.ntmps45
  go_wp2_with fail
  go_loopw [7] (fun i wr => ∃ k : Nat, k ≤ n ∧ i = .int .i64 k ∧ (∀ j, j < k → okI L j = true) ∧ Same w wr) (fun i _ => n - (intOf i).toNat)
  case atStart => exact ⟨0, by omega, rfl, (fun j hj => by omega), Mod.refl _ _⟩
  case round =>
    obtain ⟨k, hk, rfl, hok, M⟩ := hrel
    by_cases hlt : k < n
    · obtain ⟨b1, o1, rfl, hb1, hc1⟩ := HI.out (by rw [HN.out]; omega)
      have hkL : k < L.length := by rw [HN.out]; exact hlt
      obtain ⟨x, hx⟩ : ∃ x, L[k]? = some x := ⟨_, List.getElem?_eq_getElem hkL⟩
      have HC := Lib.hid (fun (i : Nat) (y : Int) (hy : L[i]? = some y) => (M.cell hb1 (fun q => q) (o1 + i)).trans (hc1 i y hy))
      have e0 := HC.out k x hx
      have HX := Lib.hid hx
      have HO := Lib.hid hok
      have J := Lib.hid M
      have hgf := Lib.hid (fun (h : okI L k = false) => goodI_bad hkL h)
      clear hx hok M hc1
      by_cases h1 : 0 ≤ x
      · have d1 : decide (x < 0) = false := decide_eq_false (by omega)
        by_cases h2 : x ≤ 9999
        · have d2 : decide (x > 9999) = false := decide_eq_false (by omega)
          have d2' : decide (9999 < x) = false := decide_eq_false (by omega)
          rcases Nat.eq_zero_or_pos k with hk0 | hpos
          · have HN2 := Lib.hid (iok_next HO.out (show okI L k = true by subst hk0; rw [okI_zero HX.out, decide_eq_true h1, decide_eq_true h2]; rfl))
            have hg2 : decide ((0 : Int) < (k : Int)) = false := decide_eq_false (by omega)
            have hg3 : decide (0 < k) = false := decide_eq_false (by omega)
            have hg4 : decide ((k : Int) > 0) = false := decide_eq_false (by omega)
            clear hk0
            go_wp2_with fail

            go_roundw
            case rel => exact ⟨k + 1, by omega, by go_num, HN2.out, J.out⟩
            case measure => simp [intOf]; omega
          · obtain ⟨m, hkm⟩ : ∃ m, k = m + 1 := ⟨k - 1, by omega⟩
            obtain ⟨y, hy⟩ : ∃ y, L[m]? = some y := ⟨_, List.getElem?_eq_getElem (by omega)⟩
            have y0 := HC.out m y hy
            have hw : IntKind.i64.wrap ((k : Int) - 1) = (m : Int) := by rw [show ((k : Int) - 1) = (m : Int) by omega]; exact IntWalk.i64_in _ (by omega)
            have hg2 : decide ((0 : Int) < (k : Int)) = true := decide_eq_true (by omega)
            have hg3 : decide (0 < k) = true := decide_eq_true (by omega)
            have hg4 : decide ((k : Int) > 0) = true := decide_eq_true (by omega)
            have hmn : m < n := by omega
            have hoks := Lib.hid (show okI L k = (decide (0 ≤ x) && decide (x ≤ 9999) && decide (y < x)) by subst hkm; exact okI_succ HX.out hy)
            clear hkm hy
            by_cases hyc : y < x
            · have HN2 := Lib.hid (iok_next HO.out (show okI L k = true by rw [hoks.out, decide_eq_true h1, decide_eq_true h2, decide_eq_true hyc]; rfl))
              have d3 : decide (y ≥ x) = false := decide_eq_false (by omega)
              have d3' : decide (x ≤ y) = false := decide_eq_false (by omega)
              go_wp2_with fail

              go_roundw
              case rel => exact ⟨k + 1, by omega, by go_num, HN2.out, J.out⟩
              case measure => simp [intOf]; omega
            · have d3 : decide (y ≥ x) = true := decide_eq_true (by omega)
              have d3' : decide (x ≤ y) = true := decide_eq_true (by omega)
              rw [hgf.out (by rw [hoks.out, decide_eq_false hyc, Bool.and_false])] at HR
              go_wp2_with fail
              go_wp2
              exact HR.out _ _ ⟨rfl, J.out⟩
        · have d2 : decide (x > 9999) = true := decide_eq_true (by omega)
          have d2' : decide (9999 < x) = true := decide_eq_true (by omega)
          rw [hgf.out (okI_hi HX.out h2)] at HR
          go_wp2_with fail
          go_wp2
          exact HR.out _ _ ⟨rfl, J.out⟩
      · have d1 : decide (x < 0) = true := decide_eq_true (by omega)
        rw [hgf.out (okI_lo HX.out h1)] at HR
        go_wp2_with fail
        go_wp2
        exact HR.out _ _ ⟨rfl, J.out⟩
    · obtain rfl : k = n := by omega
      have hg := goodI_all (fun j hj => hok j (by rw [← HN.out]; exact hj))
      rw [hg] at HR
      have J := Lib.hid M
      clear M hok hg
      go_wp2
      exact HR.out _ _ ⟨rfl, J.out⟩
set_option maxHeartbeats 4000000 in
theorem bgood_any (a : Option Addr) (cap : Nat) (L : List Int) (w : World) (hl : L.length ≤ 4000000000) (hI : Ins w a L) :
    Calls Tryd.prog 20 #[.slice a L.length cap] w fun e w' => e = .returned (.bool (goodI L)) ∧ Same w w' := by
  refine opq fun R HR => ?_
  have HI := Lib.hid hI
  clear hI
  obtain ⟨n, hn⟩ : ∃ n, L.length = n := ⟨_, rfl⟩
  rw [hn] at hl ⊢
  have HN := Lib.hid hn
  clear hn
  go_enter Tryd.func20, Tryd.ntmps20
  go_wp2_with fail
  go_loopw [3] (fun i wr => ∃ k : Nat, k ≤ n ∧ i = .int .i64 k ∧ (∀ j, j < k → okI L j = true) ∧ Same w wr) (fun i _ => n - (intOf i).toNat)
  case atStart => exact ⟨0, by omega, rfl, (fun j hj => by omega), Mod.refl _ _⟩
  case round =>
    obtain ⟨k, hk, rfl, hok, M⟩ := hrel
    by_cases hlt : k < n
    · obtain ⟨b1, o1, rfl, hb1, hc1⟩ := HI.out (by rw [HN.out]; omega)
      have hkL : k < L.length := by rw [HN.out]; exact hlt
      obtain ⟨x, hx⟩ : ∃ x, L[k]? = some x := ⟨_, List.getElem?_eq_getElem hkL⟩
      have HC := Lib.hid (fun (i : Nat) (y : Int) (hy : L[i]? = some y) => (M.cell hb1 (fun q => q) (o1 + i)).trans (hc1 i y hy))
      have e0 := HC.out k x hx
      have HX := Lib.hid hx
      have HO := Lib.hid hok
      have J := Lib.hid M
      have hgf := Lib.hid (fun (h : okI L k = false) => goodI_bad hkL h)
      clear hx hok M hc1
      by_cases h1 : 0 ≤ x
      · have d1 : decide (x < 0) = false := decide_eq_false (by omega)
        by_cases h2 : x ≤ 9999
        · have d2 : decide (x > 9999) = false := decide_eq_false (by omega)
          have d2' : decide (9999 < x) = false := decide_eq_false (by omega)
          rcases Nat.eq_zero_or_pos k with hk0 | hpos
          · have HN2 := Lib.hid (iok_next HO.out (show okI L k = true by subst hk0; rw [okI_zero HX.out, decide_eq_true h1, decide_eq_true h2]; rfl))
            have hg2 : decide ((0 : Int) < (k : Int)) = false := decide_eq_false (by omega)
            have hg3 : decide (0 < k) = false := decide_eq_false (by omega)
            have hg4 : decide ((k : Int) > 0) = false := decide_eq_false (by omega)
            clear hk0
            go_wp2_with fail
            go_big_quiet (fail)
            go_wp2
            go_roundw
            case rel => exact ⟨k + 1, by omega, by go_num, HN2.out, J.out.drewN _⟩
            case measure => simp [intOf]; omega
          · obtain ⟨m, hkm⟩ : ∃ m, k = m + 1 := ⟨k - 1, by omega⟩
            obtain ⟨y, hy⟩ : ∃ y, L[m]? = some y := ⟨_, List.getElem?_eq_getElem (by omega)⟩
            have y0 := HC.out m y hy
            have hw : IntKind.i64.wrap ((k : Int) - 1) = (m : Int) := by rw [show ((k : Int) - 1) = (m : Int) by omega]; exact IntWalk.i64_in _ (by omega)
            have hg2 : decide ((0 : Int) < (k : Int)) = true := decide_eq_true (by omega)
            have hg3 : decide (0 < k) = true := decide_eq_true (by omega)
            have hg4 : decide ((k : Int) > 0) = true := decide_eq_true (by omega)
            have hmn : m < n := by omega
            have hoks := Lib.hid (show okI L k = (decide (0 ≤ x) && decide (x ≤ 9999) && decide (y < x)) by subst hkm; exact okI_succ HX.out hy)
            clear hkm hy
            by_cases hyc : y < x
            · have HN2 := Lib.hid (iok_next HO.out (show okI L k = true by rw [hoks.out, decide_eq_true h1, decide_eq_true h2, decide_eq_true hyc]; rfl))
              have d3 : decide (y ≥ x) = false := decide_eq_false (by omega)
              have d3' : decide (x ≤ y) = false := decide_eq_false (by omega)
              go_wp2_with fail
              go_big_quiet (fail)
              go_wp2
              go_roundw
              case rel => exact ⟨k + 1, by omega, by go_num, HN2.out, J.out.drewN _⟩
              case measure => simp [intOf]; omega
            · have d3 : decide (y ≥ x) = true := decide_eq_true (by omega)
              have d3' : decide (x ≤ y) = true := decide_eq_true (by omega)
              rw [hgf.out (by rw [hoks.out, decide_eq_false hyc, Bool.and_false])] at HR
              go_wp2_with fail
              go_big_quiet (fail)
              go_wp2
              exact HR.out _ _ ⟨rfl, J.out.drewN _⟩
        · have d2 : decide (x > 9999) = true := decide_eq_true (by omega)
          have d2' : decide (9999 < x) = true := decide_eq_true (by omega)
          rw [hgf.out (okI_hi HX.out h2)] at HR
          go_wp2_with fail
          go_big_quiet (fail)
          go_wp2
          exact HR.out _ _ ⟨rfl, J.out.drewN _⟩
      · have d1 : decide (x < 0) = true := decide_eq_true (by omega)
        rw [hgf.out (okI_lo HX.out h1)] at HR
        go_wp2_with fail
        go_big_quiet (fail)
        go_wp2
        exact HR.out _ _ ⟨rfl, J.out.drewN _⟩
    · obtain rfl : k = n := by omega
      have hg := goodI_all (fun j hj => hok j (by rw [← HN.out]; exact hj))
      rw [hg] at HR
      have J := Lib.hid M
      clear M hok hg
      go_wp2
      exact HR.out _ _ ⟨rfl, J.out⟩
end Go.Proofs.YthkcdoneghcglaaDoor
