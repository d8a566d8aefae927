import Derived.Test.YthkcdoneghcglaaDoorBndS
import Derived.Test.YthkcdoneghcglaaDoorBndT
import Derived.Test.YthkcdoneghcglaaDoorBndU
set_option linter.unusedSimpArgs false
set_option linter.unusedVariables false
/- The law's ints at any two lists; slices that come in: nil has no room. -/
namespace Go.Proofs.YthkcdoneghcglaaDoor
open Go Go.RowKit
set_option maxRecDepth 10000 in
theorem ints_nil {H : Type} {enc : TypeId × Value → H} {w : World} {base : Nat} {spare : Nat → Bool} {held : Bool} {l c : Nat} {a : Option Addr} {d : DataW H} {p : List MemPlace} (h0 : DataW.Trod enc Tryd.prog w base spare held 29 (.slice a l c) d p) : a = none → c = 0 := by
  intro ha
  subst ha
  obtain ⟨n, h⟩ := h0
  rcases Go.Deep.open_slice Tryd.underlying29 h with ⟨h1, _⟩ | ⟨a', len, cap, m, k, D, Pl, hcs, _⟩
  · simp only [Value.cells, List.cons.injEq, and_true, Value.slice.injEq] at h1
    exact h1.2.2
  · simp only [Value.cells, List.cons.injEq, and_true, Value.slice.injEq] at hcs
    cases hcs.1
theorem take_ext {A B : List Int} (hl : A.length = B.length) {k : Nat} (h : A.take k = B.take k) {x y : Int} (hx : A[k]? = some x) (hy : B[k]? = some y) (hxy : x = y) : A.take (k + 1) = B.take (k + 1) := by
  rw [List.take_add_one, List.take_add_one, h, hx, hy, hxy]
set_option maxHeartbeats 2000000 in
theorem ints2_any (a1 a2 : Option Addr) (c1 c2 : Nat) (A B : List Int) (w : World) (hl : A.length ≤ 4000000000) (hl2 : B.length ≤ 4000000000) (hI1 : Ins w a1 A) (hI2 : Ins w a2 B) :
    Calls Tryd.prog 24 #[.slice a1 A.length c1, .slice a2 B.length c2] w fun e w' => e = .returned (.bool (decide (A = B))) ∧ Same w w' := by
  refine opq fun R HR => ?_
  have H1 := Lib.hid hI1
  have H2 := Lib.hid hI2
  clear hI1 hI2
  obtain ⟨n, hn⟩ : ∃ n, A.length = n := ⟨_, rfl⟩
  obtain ⟨m, hm⟩ : ∃ n, B.length = n := ⟨_, rfl⟩
  rw [hn] at hl ⊢
  rw [hm] at hl2 ⊢
  have HN := Lib.hid hn
  have HM := Lib.hid hm
  clear hn hm
  by_cases hnm : n = m
  · subst hnm
    go_enter Tryd.func24, Tryd.ntmps24
    go_wp2_with fail
    go_loopw [5] (fun i wr => ∃ k : Nat, k ≤ n ∧ i = .int .i64 k ∧ A.take k = B.take k ∧ Same w wr) (fun i _ => n - (intOf i).toNat)
    case atStart => exact ⟨0, by omega, rfl, rfl, Mod.refl _ _⟩
    case round =>
      obtain ⟨k, hk, rfl, htk, M⟩ := hrel
      have HT := Lib.hid htk
      clear htk
      by_cases hlt : k < n
      · obtain ⟨b1, o1, rfl, hb1, hc1⟩ := H1.out (by rw [HN.out]; omega)
        obtain ⟨b2, o2, rfl, hb2, hc2⟩ := H2.out (by rw [HM.out]; omega)
        obtain ⟨x, hx⟩ : ∃ x, A[k]? = some x := ⟨_, List.getElem?_eq_getElem (by rw [HN.out]; exact hlt)⟩
        obtain ⟨y, hy⟩ : ∃ y, B[k]? = some y := ⟨_, List.getElem?_eq_getElem (by rw [HM.out]; exact hlt)⟩
        have x0 := (M.cell hb1 (fun q => q) _).trans (hc1 k x hx)
        have y0 := (M.cell hb2 (fun q => q) _).trans (hc2 k y hy)
        have J := Lib.hid M
        by_cases hxy : x = y
        · have HT2 := Lib.hid (take_ext (by rw [HN.out, HM.out]) HT.out hx hy hxy)
          subst hxy
          clear hc1 hc2 hx hy M
          go_wp2_with fail
          go_big_quiet (fail)
          go_wp2
          go_roundw
          case rel => exact ⟨k + 1, by omega, by go_num, HT2.out, J.out.drewN _⟩
          case measure => simp [intOf]; omega
        · have hne : A ≠ B := fun h => by rw [h, hy] at hx; exact hxy (Option.some.inj hx).symm
          rw [decide_eq_false hne] at HR
          have d1 : (x == y) = false := beqF hxy
          have d2 : (x != y) = true := by simp [bne, d1]
          clear hc1 hc2 hx hy M hne hxy
          go_wp2_with fail
          go_big_quiet (fail)
          go_wp2
          exact HR.out _ _ ⟨rfl, J.out.drewN _⟩
      · obtain rfl : k = n := by omega
        have hAB : A = B := by
          have := HT.out
          rw [List.take_of_length_le (by rw [HN.out]; exact Nat.le_refl _), List.take_of_length_le (by rw [HM.out]; exact Nat.le_refl _)] at this
          exact this
        rw [decide_eq_true hAB] at HR
        have J := Lib.hid M
        clear M hAB
        go_wp2
        exact HR.out _ _ ⟨rfl, J.out⟩
  · have hne : A ≠ B := fun h => hnm (by rw [← HN.out, ← HM.out, h])
    rw [decide_eq_false hne] at HR
    have d1 : ((n : Int) == (m : Int)) = false := beqF (by omega)
    have d2 : ((n : Int) != (m : Int)) = true := by simp [bne, d1]
    clear hne
    go_enter Tryd.func24, Tryd.ntmps24
    go_wp2
    exact HR.out _ _ ⟨rfl, Mod.refl _ _⟩
end Go.Proofs.YthkcdoneghcglaaDoor
