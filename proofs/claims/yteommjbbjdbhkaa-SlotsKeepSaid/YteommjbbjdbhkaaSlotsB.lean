import Derived.Test.YteommjbbjdbhkaaSlotsA
set_option linter.unusedSimpArgs false
set_option linter.unusedVariables false
namespace Go.Proofs.Yteommjbbjdbhkaa
open Go Go.RowKit
theorem free_any (P g n : Nat) (f : Nat → Int) (w : World) (h : SL w P g n f) (hn : n ≤ 9223372036854775807) :
    Calls Try.prog 17 #[ptr P] w fun e w' => e = .returned (.int .i64 (cnt f 0 n)) ∧ w = w' := by
  refine opq fun R HR => ?_
  have H := Lib.hid h
  clear h
  go_enter Try.func17, Try.ntmps17
  go_wp2_with (go_at_call 37; refine (count_any P g n f _ _ H.out hn).mono ?_; rintro e w1 ⟨rfl, rfl⟩)
  exact HR.out _ _ ⟨rfl, rfl⟩
theorem waits_any (P g n : Nat) (f : Nat → Int) (w : World) (h : SL w P g n f) (hn : n ≤ 9223372036854775807) :
    Calls Try.prog 16 #[ptr P] w fun e w' => e = .returned (.int .i64 (cnt f 3 n)) ∧ w = w' := by
  refine opq fun R HR => ?_
  have H := Lib.hid h
  clear h
  go_enter Try.func16, Try.ntmps16
  go_wp2_with (go_at_call 37; refine (count_any P g n f _ _ H.out hn).mono ?_; rintro e w1 ⟨rfl, rfl⟩)
  exact HR.out _ _ ⟨rfl, rfl⟩
theorem room_any (P g n : Nat) (f : Nat → Int) (w : World) (h : SL w P g n f) (hn : n ≤ 9223372036854775807) :
    Calls Try.prog 24 #[ptr P] w fun e w' => e = .returned (.int .i64 (max ((cnt f 0 n : Int) - 1) 0)) ∧ w = w' := by
  refine opq fun R HR => ?_
  have H := Lib.hid h
  clear h
  have hF := Lib.hid (free_any P g n f w H.out hn)
  have hle := cnt_le f 0 n
  generalize cnt f 0 n = c at *
  by_cases hc : c = 0
  · subst hc
    go_enter Try.func24, Try.ntmps24
    go_wp2_with (go_at_call 17; refine hF.out.mono ?_; rintro e w1 ⟨rfl, rfl⟩)
    exact HR.out _ _ ⟨rfl, rfl⟩
  · have hm : max ((c : Int) - 1) 0 = c - 1 := by omega
    rw [hm] at HR
    have h1 : (1 : Int) ≤ (c : Int) := by omega
    clear hm hc
    go_enter Try.func24, Try.ntmps24
    go_wp2_with (go_at_call 17; refine hF.out.mono ?_; rintro e w1 ⟨rfl, rfl⟩)
    exact HR.out _ _ ⟨rfl, rfl⟩
theorem len_any (P g n : Nat) (f : Nat → Int) (w : World) (h : SL w P g n f) :
    Calls Try.prog 23 #[ptr P] w fun e w' => e = .returned (.int .i64 n) ∧ w = w' := by
  refine opq fun R HR => ?_
  have hc := h.head.cell
  clear h
  go_enter Try.func23, Try.ntmps23
  go_wp2
  exact HR.out _ _ ⟨rfl, rfl⟩
set_option maxHeartbeats 1000000 in
theorem index_any (g n : Nat) (f : Nat → Int) (x : Int) (c : Nat) (w : World) (h : RowI w g n f) (hn : n ≤ 9223372036854775807) :
    Calls Try.prog 49 #[.slice (some ⟨g, 0, none⟩) n c, .int .i64 x] w fun e w' => e = .returned (.int .i64 (low f x 0 n)) ∧ w = w' := by
  refine opq fun R HR => ?_
  have HRW := Lib.hid h.cell
  clear h
  go_enter Try.func49, Try.ntmps49
  go_wp2_with fail
  go_loop [8] (fun i => ∃ k : Nat, k ≤ n ∧ i = .int .i64 k ∧ low f x k (n - k) = low f x 0 n) (fun i => n - (intOf i).toNat)
  case atStart => exact ⟨0, by omega, rfl, rfl⟩
  case round =>
    obtain ⟨k, hk, rfl, hlow⟩ := hrel
    have HL := Lib.hid hlow
    clear hlow
    by_cases hlt : k < n
    · have hck := HRW.out k hlt
      have hs : low f x k (n - k) = if f k = x then (k : Int) else low f x (k + 1) (n - (k + 1)) := by
        rw [show n - k = (n - (k + 1)) + 1 from by omega]; rfl
      by_cases hx : f k = x
      · rw [if_pos hx] at hs
        have HS := Lib.hid hs
        have hx' : (x == f k) = true := by rw [beq_iff_eq]; exact hx.symm
        clear hs hx
        go_wp2
        exact HR.out _ _ ⟨by rw [← HL.out, HS.out], rfl⟩
      · rw [if_neg hx] at hs
        have HS := Lib.hid hs
        have hx' : (x == f k) = false := by rw [beq_eq_false_iff_ne]; exact fun e => hx e.symm
        clear hs hx
        go_wp2
        go_round
        case rel => exact ⟨k + 1, by omega, by go_num, by rw [← HS.out]; exact HL.out⟩
        case measure => simp [intOf]; omega
    · obtain rfl : k = n := by omega
      go_wp2
      exact HR.out _ _ ⟨by rw [← HL.out, Nat.sub_self]; rfl, rfl⟩
def takeV (f : Nat → Int) (n : Nat) (least : Int) : Array Value := if (cnt f 0 n : Int) < least then #[.int .i64 0, .int .i64 5] else #[.int .i64 (low f 0 0 n), .int .i64 0]
def takeF (f : Nat → Int) (n : Nat) (least : Int) : Nat → Int := if (cnt f 0 n : Int) < least then f else upd f (low f 0 0 n).toNat 1
theorem SL.setMod {w : World} {P g n : Nat} {f : Nat → Int} {i : Nat} {v : Int} : Mod (fun i => i = g) w (w.setCell ⟨g, i, none⟩ (.int .i64 v)) := (Mod.refl (fun i => i = g) w).setCell (fun _ => rfl) _
set_option maxHeartbeats 1000000 in
theorem take_any (P g n : Nat) (f : Nat → Int) (least : Int) (w : World) (h : SL w P g n f) (hn : n ≤ 9223372036854775807) (hl : 1 ≤ least) :
    Calls Try.prog 36 #[ptr P, .int .i64 least] w (Done w P g n (.tuple (takeV f n least)) (takeF f n least)) := by
  refine opq fun R HR => ?_
  have hF := Lib.hid (free_any P g n f w h hn)
  have hc := h.head.cell
  have hI := Lib.hid (index_any g n f 0 n w h.row hn)
  have H := Lib.hid h
  clear h
  have hle := cnt_le f 0 n
  by_cases hlt : (cnt f 0 n : Int) < least
  · have e1 : takeV f n least = #[.int .i64 0, .int .i64 5] := if_pos hlt
    have e2 : takeF f n least = f := if_pos hlt
    rw [e1, e2] at HR
    clear e1 e2
    generalize cnt f 0 n = c at *
    go_enter Try.func36, Try.ntmps36
    go_wp2_with (go_at_call 17; refine hF.out.mono ?_; rintro e w1 ⟨rfl, rfl⟩)
    exact HR.out _ _ ⟨rfl, H.out, Mod.refl _ _⟩
  · have e1 : takeV f n least = #[.int .i64 (low f 0 0 n), .int .i64 0] := if_neg hlt
    have e2 : takeF f n least = upd f (low f 0 0 n).toNat 1 := if_neg hlt
    rw [e1, e2] at HR
    obtain ⟨j, hj, hlow, hfj⟩ := low_of_pos (f := f) (x := 0) (n := n) (by omega)
    rw [hlow] at HR hI
    rw [Int.toNat_natCast] at HR
    have hcj := H.out.row.cell j hj
    have hfr := H.out.row.free
    have HS := Lib.hid (H.out.set j hj 1)
    clear e1 e2 hlow hfj
    generalize cnt f 0 n = c at *
    go_enter Try.func36, Try.ntmps36
    go_wp2_with (first | (go_at_call 17; refine hF.out.mono ?_; rintro e w1 ⟨rfl, rfl⟩) | (go_at_call 49; refine hI.out.mono ?_; rintro e w1 ⟨rfl, rfl⟩))
    exact HR.out _ _ ⟨rfl, HS.out, SL.setMod (P := P) (n := n) (f := f)⟩
end Go.Proofs.Yteommjbbjdbhkaa
