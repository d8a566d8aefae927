import Derived.Test.YteommjbbjdbhkaaSlotsB
set_option linter.unusedSimpArgs false
set_option linter.unusedVariables false
namespace Go.Proofs.Yteommjbbjdbhkaa
open Go Go.RowKit
theorem takev_form (f : Nat → Int) (n : Nat) (least : Int) : ∃ a b : Int, takeV f n least = #[.int .i64 a, .int .i64 b] := by
  unfold takeV; split <;> exact ⟨_, _, rfl⟩
theorem Take_any (P g n : Nat) (f : Nat → Int) (w : World) (h : SL w P g n f) (hn : n ≤ 9223372036854775807) :
    Calls Try.prog 12 #[ptr P] w (Done w P g n (.tuple (takeV f n 2)) (takeF f n 2)) := by
  refine opq fun R HR => ?_
  have H := Lib.hid (take_any P g n f 2 w h hn (by omega))
  clear h
  obtain ⟨a, b, e⟩ := takev_form f n 2
  rw [e] at H HR
  clear e
  generalize takeF f n 2 = f' at *
  go_enter Try.func12, Try.ntmps12
  go_wp2_with fail
  refine H.out.mono ?_
  rintro e w1 ⟨rfl, h1, M1⟩
  have J1 := Lib.hid h1
  have J2 := Lib.hid M1
  clear h1 M1
  go_wp2
  exact HR.out _ _ ⟨rfl, J1.out, J2.out⟩
theorem Move_any (P g n : Nat) (f : Nat → Int) (w : World) (h : SL w P g n f) (hn : n ≤ 9223372036854775807) :
    Calls Try.prog 13 #[ptr P] w (Done w P g n (.tuple (takeV f n 1)) (takeF f n 1)) := by
  refine opq fun R HR => ?_
  have H := Lib.hid (take_any P g n f 1 w h hn (by omega))
  clear h
  obtain ⟨a, b, e⟩ := takev_form f n 1
  rw [e] at H HR
  clear e
  generalize takeF f n 1 = f' at *
  go_enter Try.func13, Try.ntmps13
  go_wp2_with fail
  refine H.out.mono ?_
  rintro e w1 ⟨rfl, h1, M1⟩
  have J1 := Lib.hid h1
  have J2 := Lib.hid M1
  clear h1 M1
  go_wp2
  exact HR.out _ _ ⟨rfl, J1.out, J2.out⟩
/-- Give: the error's number, and the states behind it. -/
def giveV (f : Nat → Int) (n : Nat) (i : Int) : Int := if 0 ≤ i ∧ i < n then if f i.toNat = 1 ∨ f i.toNat = 2 then 0 else 7 else 1
def giveF (f : Nat → Int) (n : Nat) (i : Int) : Nat → Int := if 0 ≤ i ∧ i < n then if f i.toNat = 1 then upd f i.toNat 0 else if f i.toNat = 2 then upd f i.toNat 3 else f else f
def markV (f : Nat → Int) (n : Nat) (i : Int) : Int := if 0 ≤ i ∧ i < n then if f i.toNat = 0 then 0 else 8 else 1
def markF (f : Nat → Int) (n : Nat) (i : Int) : Nat → Int := if 0 ≤ i ∧ i < n then if f i.toNat = 0 then upd f i.toNat 2 else f else f
set_option maxHeartbeats 2000000 in
theorem give_any (P g n : Nat) (f : Nat → Int) (i : Int) (w : World) (h : SL w P g n f) (hn : n ≤ 9223372036854775807) :
    Calls Try.prog 11 #[ptr P, .int .i64 i] w (Done w P g n (.int .i64 (giveV f n i)) (giveF f n i)) := by
  refine opq fun R HR => ?_
  have hI := is_any P g n f i w h
  by_cases hi : 0 ≤ i ∧ i < n
  · have hd : decide (0 ≤ i ∧ i < (n : Int)) = true := by rw [decide_eq_true_eq]; exact hi
    rw [hd] at hI
    have HI := Lib.hid hI
    clear hd hI
    obtain ⟨j, rfl⟩ : ∃ j : Nat, i = j := ⟨i.toNat, by omega⟩
    have hj : j < n := by omega
    have hcj := h.row.cell j hj
    have hc := h.head.cell
    have hfr := h.row.free
    have H := Lib.hid h
    unfold giveV giveF at HR
    rw [if_pos hi, if_pos hi, Int.toNat_natCast] at HR
    clear h hi
    have hji : (j : Int) < (n : Int) := by omega
    by_cases h1 : f j = 1
    · rw [if_pos h1, if_pos (Or.inl h1)] at HR
      rw [h1] at hcj
      have HS := Lib.hid (H.out.set j hj 0)
      clear h1
      go_enter Try.func11, Try.ntmps11
      go_wp2_with (go_at_call 35; refine HI.out.mono ?_; rintro e w1 ⟨rfl, rfl⟩)
      exact HR.out _ _ ⟨rfl, HS.out, SL.setMod (P := P) (n := n) (f := f)⟩
    · by_cases h2 : f j = 2
      · rw [if_neg h1, if_pos h2, if_pos (Or.inr h2)] at HR
        rw [h2] at hcj
        have HS := Lib.hid (H.out.set j hj 3)
        clear h1 h2
        go_enter Try.func11, Try.ntmps11
        go_wp2_with (go_at_call 35; refine HI.out.mono ?_; rintro e w1 ⟨rfl, rfl⟩)
        exact HR.out _ _ ⟨rfl, HS.out, SL.setMod (P := P) (n := n) (f := f)⟩
      · rw [if_neg h1, if_neg h2, if_neg (fun q => q.elim h1 h2)] at HR
        have b1 : (f j == 1) = false := by rw [beq_eq_false_iff_ne]; exact h1
        have b2 : (f j == 2) = false := by rw [beq_eq_false_iff_ne]; exact h2
        clear h1 h2
        generalize f j = x at *
        go_enter Try.func11, Try.ntmps11
        go_wp2_with (go_at_call 35; refine HI.out.mono ?_; rintro e w1 ⟨rfl, rfl⟩)
        exact HR.out _ _ ⟨rfl, H.out, Mod.refl _ _⟩
  · have hd : decide (0 ≤ i ∧ i < (n : Int)) = false := by rw [decide_eq_false_iff_not]; exact hi
    rw [hd] at hI
    have HI := Lib.hid hI
    unfold giveV giveF at HR
    rw [if_neg hi, if_neg hi] at HR
    have H := Lib.hid h
    clear hd hI hi h
    go_enter Try.func11, Try.ntmps11
    go_wp2_with (go_at_call 35; refine HI.out.mono ?_; rintro e w1 ⟨rfl, rfl⟩)
    exact HR.out _ _ ⟨rfl, H.out, Mod.refl _ _⟩
set_option maxHeartbeats 2000000 in
theorem mark_any (P g n : Nat) (f : Nat → Int) (i : Int) (w : World) (h : SL w P g n f) (hn : n ≤ 9223372036854775807) :
    Calls Try.prog 22 #[ptr P, .int .i64 i] w (Done w P g n (.int .i64 (markV f n i)) (markF f n i)) := by
  refine opq fun R HR => ?_
  have hI := is_any P g n f i w h
  by_cases hi : 0 ≤ i ∧ i < n
  · have hd : decide (0 ≤ i ∧ i < (n : Int)) = true := by rw [decide_eq_true_eq]; exact hi
    rw [hd] at hI
    have HI := Lib.hid hI
    clear hd hI
    obtain ⟨j, rfl⟩ : ∃ j : Nat, i = j := ⟨i.toNat, by omega⟩
    have hj : j < n := by omega
    have hcj := h.row.cell j hj
    have hc := h.head.cell
    have hfr := h.row.free
    have H := Lib.hid h
    unfold markV markF at HR
    rw [if_pos hi, if_pos hi, Int.toNat_natCast] at HR
    clear h hi
    have hji : (j : Int) < (n : Int) := by omega
    by_cases h1 : f j = 0
    · rw [if_pos h1, if_pos h1] at HR
      rw [h1] at hcj
      have HS := Lib.hid (H.out.set j hj 2)
      clear h1
      go_enter Try.func22, Try.ntmps22
      go_wp2_with (go_at_call 35; refine HI.out.mono ?_; rintro e w1 ⟨rfl, rfl⟩)
      exact HR.out _ _ ⟨rfl, HS.out, SL.setMod (P := P) (n := n) (f := f)⟩
    · rw [if_neg h1, if_neg h1] at HR
      have b1 : (f j == 0) = false := by rw [beq_eq_false_iff_ne]; exact h1
      have b2 : (f j != 0) = true := by rw [bne_iff_ne]; exact h1
      clear h1
      generalize f j = x at *
      go_enter Try.func22, Try.ntmps22
      go_wp2_with (go_at_call 35; refine HI.out.mono ?_; rintro e w1 ⟨rfl, rfl⟩)
      exact HR.out _ _ ⟨rfl, H.out, Mod.refl _ _⟩
  · have hd : decide (0 ≤ i ∧ i < (n : Int)) = false := by rw [decide_eq_false_iff_not]; exact hi
    rw [hd] at hI
    have HI := Lib.hid hI
    unfold markV markF at HR
    rw [if_neg hi, if_neg hi] at HR
    have H := Lib.hid h
    clear hd hI hi h
    go_enter Try.func22, Try.ntmps22
    go_wp2_with (go_at_call 35; refine HI.out.mono ?_; rintro e w1 ⟨rfl, rfl⟩)
    exact HR.out _ _ ⟨rfl, H.out, Mod.refl _ _⟩
end Go.Proofs.Yteommjbbjdbhkaa
