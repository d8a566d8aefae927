import Derived.Test.YtjkndfenniongaaGreatDoorAuA
set_option linter.unusedSimpArgs false
set_option linter.unusedVariables false
set_option maxRecDepth 100000
/- Nodes: which can be. -/
namespace Go.Proofs.YtjkndfenniongaaGreatDoor
open Go Go.RowKit
/-- Pairs in memory. -/
def Prs (w : World) (a : Option Addr) (L : List (Int × Int)) : Prop := 0 < L.length → ∃ b o, a = some ⟨b, o, none⟩ ∧ b < w.heap.size ∧ ∀ (i : Nat) (p : Int × Int), L[i]? = some p → w.cell? ⟨b, o + i * 2, none⟩ = some (.int .u64 p.1) ∧ w.cell? ⟨b, o + i * 2 + 1, none⟩ = some (.int .u64 p.2)
theorem Prs.same {w w' : World} {a : Option Addr} {L : List (Int × Int)} (h : Prs w a L) (M : Same w w') : Prs w' a L := by
  intro hp
  obtain ⟨b, o, rfl, hb, hc⟩ := h hp
  exact ⟨b, o, rfl, Nat.lt_of_lt_of_le hb M.size, fun i p h1 => ⟨(M.cell hb (fun q => q) _).trans (hc i p h1).1, (M.cell hb (fun q => q) _).trans (hc i p h1).2⟩⟩
def riseL : List (Int × Int) → Bool
  | [] => true
  | [_] => true
  | x :: y :: r => decide (x.1 < y.1) && riseL (y :: r)
theorem rise_iff : ∀ L : List (Int × Int), riseL L = true ↔ ∀ i x y, L[i]? = some x → L[i + 1]? = some y → x.1 < y.1
  | [] => by simp [riseL]
  | [a] => by simp [riseL]
  | a :: b :: r => by
    rw [riseL, Bool.and_eq_true, decide_eq_true_eq, rise_iff (b :: r)]
    constructor
    · rintro ⟨h1, h2⟩ i x y hx hy
      cases i with
      | zero => simp at hx hy; subst hx hy; exact h1
      | succ i => exact h2 i x y (by simpa using hx) (by simpa using hy)
    · intro h
      exact ⟨h 0 a b rfl rfl, fun i x y hx hy => h (i + 1) x y (by simpa using hx) (by simpa using hy)⟩
def farL (L : List (Int × Int)) : Bool := L.any fun p => decide (p.2 < 1) || decide (512 ≤ p.2)
def goodL (lv : Int) (L : List (Int × Int)) : Bool := decide (0 ≤ lv) && decide (lv < 8) && decide (L.length ≤ 15) && riseL L && (decide (lv = 0) || (decide (0 < L.length) && !farL L))
set_option maxHeartbeats 2000000 in
theorem rise_any (a : Option Addr) (c : Nat) (L : List (Int × Int)) (w : World) (hl : L.length ≤ 1000000) (hP : Prs w a L) : Calls Tryz.prog 96 #[.slice a L.length c] w fun e w' => e = .returned (.bool (riseL L)) ∧ Same w w' := by
  refine opq fun R HR => ?_
  have HP := Lib.hid hP
  obtain ⟨n, hn⟩ : ∃ n, L.length = n := ⟨_, rfl⟩
  rw [hn] at hl ⊢
  have HN := Lib.hid hn
  clear hn hP
  go_enter Tryz.func96, Tryz.ntmps96
  go_wp2_with fail
  go_loopw [3] (fun vi wr => ∃ k : Nat, 1 ≤ k ∧ k ≤ max n 1 ∧ vi = .int .i64 (k : Int) ∧ (∀ i x y, i + 1 < k → L[i]? = some x → L[i + 1]? = some y → x.1 < y.1) ∧ Same w wr) (fun vi _ => n - (intOf vi).toNat)
  case atStart => exact ⟨1, by omega, by omega, rfl, fun i x y h => by omega, Mod.refl _ _⟩
  case round =>
    obtain ⟨k, hk1, hk, rfl, hok, M⟩ := hrel
    have J := Lib.hid M
    have OK := Lib.hid hok
    clear M hok
    by_cases hlt : k < n
    · obtain ⟨b, o, rfl, hb, hc⟩ := HP.out (by rw [HN.out]; omega)
      obtain ⟨x, hx⟩ : ∃ x, L[k - 1]? = some x := ⟨_, List.getElem?_eq_getElem (by rw [HN.out]; omega)⟩
      obtain ⟨y, hy⟩ : ∃ y, L[k]? = some y := ⟨_, List.getElem?_eq_getElem (by rw [HN.out]; omega)⟩
      have e0 := (J.out.cell hb (fun q => q) _).trans (hc (k - 1) x hx).1
      have e1 := (J.out.cell hb (fun q => q) _).trans (hc k y hy).1
      have HX := Lib.hid hx
      have HY := Lib.hid hy
      have hw1 : IntKind.i64.wrap ((k : Int) - 1) = ((k - 1 : Nat) : Int) := by rw [IntWalk.i64_in _ (by omega)]; omega
      clear hc hx hy
      by_cases hxy : x.1 < y.1
      · have d1 : decide (x.1 ≥ y.1) = false := decide_eq_false (by omega)
        have d2 : decide (y.1 ≤ x.1) = false := decide_eq_false (by omega)
        have d3 : ¬ y.1 ≤ x.1 := by omega
        go_wp2_with fail
        go_big_quiet (fail)
        go_wp2_with fail
        go_roundw
        case rel => exact ⟨k + 1, by omega, by omega, by go_num, (fun i x' y' h1 h2 h3 => by
          by_cases q : i + 1 = k
          · obtain rfl : i = k - 1 := by omega
            rw [HX.out] at h2
            rw [show k - 1 + 1 = k by omega, HY.out] at h3
            cases h2; cases h3; exact hxy
          · exact OK.out i x' y' (by omega) h2 h3), by first | exact J.out.drewN _ | exact (J.out.drewN _).drewN _⟩
        case measure => simp [intOf]; omega
      · have d1 : decide (x.1 ≥ y.1) = true := decide_eq_true (by omega)
        have d2 : decide (y.1 ≤ x.1) = true := decide_eq_true (by omega)
        have d3 : y.1 ≤ x.1 := by omega
        have hr : riseL L = false := by
          cases hq : riseL L with
          | false => rfl
          | true => exact absurd ((rise_iff L).1 hq (k - 1) x y HX.out (by rw [show k - 1 + 1 = k by omega]; exact HY.out)) hxy
        rw [hr] at HR
        go_wp2_with fail
        go_big_quiet (fail)
        go_wp2
        exact HR.out _ _ ⟨rfl, by first | exact J.out.drewN _ | exact (J.out.drewN _).drewN _⟩
    · have hr : riseL L = true := (rise_iff L).2 (fun i x y h1 h2 => OK.out i x y (by have := (List.getElem?_eq_some_iff.1 h2).1; rw [HN.out] at this; omega) h1 h2)
      rw [hr] at HR
      go_wp2
      exact HR.out _ _ ⟨rfl, J.out⟩
theorem far1_any (p : Int × Int) (w : World) : Calls Tryz.prog 97 #[.agg #[.int .u64 p.1, .int .u64 p.2]] w fun e w' => e = .returned (.bool (decide (p.2 < 1) || decide (512 ≤ p.2))) ∧ Same w w' := by
  refine opq fun R HR => ?_
  obtain ⟨k, v⟩ := p
  dsimp only at HR ⊢
  by_cases h1 : v < 1
  · rw [decide_eq_true h1] at HR
    go_enter Tryz.func97, Tryz.ntmps97
    go_wp2
    exact HR.out _ _ ⟨rfl, (Mod.refl _ _).alloc _⟩
  · rw [decide_eq_false h1] at HR
    go_enter Tryz.func97, Tryz.ntmps97
    go_wp2
    exact HR.out _ _ ⟨by simp, (Mod.refl _ _).alloc _⟩
end Go.Proofs.YtjkndfenniongaaGreatDoor
