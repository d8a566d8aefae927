import Derived.Test.YteommjbbjdbhkaaSlotsC
import Derived.Test.YteommjbbjdbhkaaSlotsD
set_option linter.unusedSimpArgs false
set_option linter.unusedVariables false
namespace Go.Proofs.Yteommjbbjdbhkaa
open Go Go.RowKit
/-- A call answered v; the row's states are f now; nothing else of old has turned. -/
def DoneR (w : World) (g n : Nat) (v : Value) (f : Nat → Int) (e : Ending) (w' : World) : Prop := e = .returned v ∧ RowI w' g n f ∧ Mod (fun i => i = g) w w'
theorem RowI.set {w : World} {g n : Nat} {f : Nat → Int} (h : RowI w g n f) (i : Nat) (hi : i < n) (v : Int) : RowI (w.setCell ⟨g, i, none⟩ (.int .i64 v)) g n (upd f i v) := by
  have := RowV.set h i hi (.int .i64 v); rw [upd_int] at this; exact this
theorem RowI.congr {w : World} {g n : Nat} {f f' : Nat → Int} (h : RowI w g n f) (e : ∀ i, i < n → f i = f' i) : RowI w g n f' := RowV.congr h (fun i hi => by rw [e i hi])
theorem setMod' {w : World} {g i : Nat} {v : Value} : Mod (fun i => i = g) w (w.setCell ⟨g, i, none⟩ v) := (Mod.refl (fun i => i = g) w).setCell (fun _ => rfl) _
theorem rlow_any (g n : Nat) (f : Nat → Int) (x : Int) (c : Nat) (w : World) (h : RowI w g n f) (hn : n ≤ 9223372036854775807) :
    Calls Try.prog 18 #[.slice (some ⟨g, 0, none⟩) n c, .int .i64 x] w fun e w' => e = .returned (.int .i64 (low f x 0 n)) ∧ w = w' := by
  refine opq fun R HR => ?_
  have HRW := Lib.hid h.cell
  clear h
  go_enter Try.func18, Try.ntmps18
  go_wp2_with fail
  go_loop [5] (fun i => ∃ k : Nat, k ≤ n ∧ i = .int .i64 k ∧ low f x k (n - k) = low f x 0 n) (fun i => n - (intOf i).toNat)
  case atStart => exact ⟨0, by omega, rfl, rfl⟩
  case round =>
    obtain ⟨k, hk, rfl, hlow⟩ := hrel
    have HL := Lib.hid hlow
    clear hlow
    by_cases hlt : k < n
    · have hck := HRW.out k hlt
      have hs : low f x k (n - k) = if f k = x then (k : Int) else low f x (k + 1) (n - (k + 1)) := by
        rw [show n - k = (n - (k + 1)) + 1 from by omega]; rfl
      by_cases hx : f k = x
      · rw [if_pos hx] at hs
        have HS := Lib.hid hs
        have hx' : (f k == x) = true := by rw [beq_iff_eq]; exact hx
        clear hs hx
        go_wp2
        exact HR.out _ _ ⟨by rw [← HL.out, HS.out], rfl⟩
      · rw [if_neg hx] at hs
        have HS := Lib.hid hs
        have hx' : (f k == x) = false := by rw [beq_eq_false_iff_ne]; exact hx
        clear hs hx
        go_wp2
        go_round
        case rel => exact ⟨k + 1, by omega, by go_num, by rw [← HS.out]; exact HL.out⟩
        case measure => simp [intOf]; omega
    · obtain rfl : k = n := by omega
      go_wp2
      exact HR.out _ _ ⟨by rw [← HL.out, Nat.sub_self]; rfl, rfl⟩
theorem rcount_any (g n : Nat) (f : Nat → Int) (x : Int) (c : Nat) (w : World) (h : RowI w g n f) (hn : n ≤ 9223372036854775807) :
    Calls Try.prog 19 #[.slice (some ⟨g, 0, none⟩) n c, .int .i64 x] w fun e w' => e = .returned (.int .i64 (cnt f x n)) ∧ w = w' := by
  refine opq fun R HR => ?_
  have HRW := Lib.hid h.cell
  clear h
  go_enter Try.func19, Try.ntmps19
  go_wp2_with fail
  go_loop [5, 6] (fun c i => ∃ k : Nat, k ≤ n ∧ i = .int .i64 k ∧ c = .int .i64 (cnt f x k)) (fun _ i => n - (intOf i).toNat)
  case atStart => exact ⟨0, by omega, rfl, rfl⟩
  case round =>
    obtain ⟨k, hk, rfl, rfl⟩ := hrel
    by_cases hlt : k < n
    · have hck := HRW.out k hlt
      have hle := cnt_le f x k
      have hs : cnt f x (k + 1) = cnt f x k + if f k = x then 1 else 0 := rfl
      by_cases hx : f k = x
      · rw [if_pos hx] at hs
        have HS := Lib.hid hs
        have hx' : (f k == x) = true := by rw [beq_iff_eq]; exact hx
        clear hs hx
        go_wp2
        go_round
        case rel => exact ⟨k + 1, by omega, by go_num, by rw [HS.out]; go_num⟩
        case measure => simp [intOf]; omega
      · rw [if_neg hx] at hs
        have HS := Lib.hid hs
        have hx' : (f k == x) = false := by rw [beq_eq_false_iff_ne]; exact hx
        clear hs hx
        go_wp2
        go_round
        case rel => exact ⟨k + 1, by omega, by go_num, by rw [HS.out]; go_num⟩
        case measure => simp [intOf]; omega
    · obtain rfl : k = n := by omega
      go_wp2
      exact HR.out _ _ ⟨rfl, rfl⟩
set_option maxHeartbeats 2000000 in
theorem rgive_any (g n : Nat) (f : Nat → Int) (i : Int) (c : Nat) (w : World) (h : RowI w g n f) (hn : n ≤ 9223372036854775807) :
    Calls Try.prog 20 #[.slice (some ⟨g, 0, none⟩) n c, .int .i64 i] w (DoneR w g n (.int .i64 (giveV f n i)) (giveF f n i)) := by
  refine opq fun R HR => ?_
  by_cases hi : 0 ≤ i ∧ i < n
  · obtain ⟨j, rfl⟩ : ∃ j : Nat, i = j := ⟨i.toNat, by omega⟩
    have hj : j < n := by omega
    have hcj := h.cell j hj
    have hfr := h.free
    have H := Lib.hid h
    unfold giveV giveF at HR
    rw [if_pos hi, if_pos hi, Int.toNat_natCast] at HR
    clear h hi
    have hji : (j : Int) < (n : Int) := by omega
    by_cases h1 : f j = 1
    · rw [if_pos h1, if_pos (Or.inl h1)] at HR
      rw [h1] at hcj
      have HS := Lib.hid (RowI.set H.out j hj 0)
      clear h1
      go_enter Try.func20, Try.ntmps20
      go_wp2
      exact HR.out _ _ ⟨rfl, HS.out, setMod'⟩
    · by_cases h2 : f j = 2
      · rw [if_neg h1, if_pos h2, if_pos (Or.inr h2)] at HR
        rw [h2] at hcj
        have HS := Lib.hid (RowI.set H.out j hj 3)
        clear h1 h2
        go_enter Try.func20, Try.ntmps20
        go_wp2
        exact HR.out _ _ ⟨rfl, HS.out, setMod'⟩
      · rw [if_neg h1, if_neg h2, if_neg (fun q => q.elim h1 h2)] at HR
        have b1 : (f j != 1) = true := by rw [bne_iff_ne]; exact h1
        have b2 : (f j != 2) = true := by rw [bne_iff_ne]; exact h2
        clear h1 h2
        generalize f j = x at *
        go_enter Try.func20, Try.ntmps20
        go_wp2
        exact HR.out _ _ ⟨rfl, H.out, Mod.refl _ _⟩
  · unfold giveV giveF at HR
    rw [if_neg hi, if_neg hi] at HR
    have H := Lib.hid h
    clear h
    rcases Int.lt_or_le i 0 with h0 | h0
    · clear hi
      go_enter Try.func20, Try.ntmps20
      go_wp2
      exact HR.out _ _ ⟨rfl, H.out, Mod.refl _ _⟩
    · have h1 : (n : Int) ≤ i := by omega
      clear hi
      go_enter Try.func20, Try.ntmps20
      go_wp2
      exact HR.out _ _ ⟨rfl, H.out, Mod.refl _ _⟩
set_option maxHeartbeats 2000000 in
theorem rcommit_any (g n : Nat) (f : Nat → Int) (c : Nat) (w : World) (h : RowI w g n f) (hn : n ≤ 9223372036854775807) :
    Calls Try.prog 21 #[.slice (some ⟨g, 0, none⟩) n c] w (DoneR w g n (.tuple #[]) (comF f)) := by
  refine opq fun R HR => ?_
  have H := Lib.hid h
  clear h
  go_enter Try.func21, Try.ntmps21
  go_wp2_with fail
  go_loopw [2] (fun i wr => ∃ k : Nat, k ≤ n ∧ i = .int .i64 k ∧ RowI wr g n (midF f k) ∧ Mod (fun i => i = g) w wr) (fun i _ => n - (intOf i).toNat)
  case atStart => exact ⟨0, by omega, rfl, H.out, Mod.refl _ _⟩
  case round =>
    obtain ⟨k, hk, rfl, hS, M⟩ := hrel
    by_cases hlt : k < n
    · have hck := hS.cell k hlt
      have hm : midF f k k = f k := by unfold midF; rw [if_neg (by omega)]
      simp only [hm] at hck
      have hfr := hS.free
      have hki : (k : Int) < (n : Int) := by omega
      have J1 := Lib.hid hS
      have J2 := Lib.hid M
      clear hm hS M H
      by_cases h1 : f k = 1
      · have hcf : comF f k = 2 := by unfold comF; rw [if_pos h1]
        have T := Lib.hid (RowI.congr (RowI.set J1.out k hlt 2) (fun i _ => mid_step f k 2 hcf i))
        rw [h1] at hck
        clear h1 hcf
        go_wp2
        go_roundw
        case rel => exact ⟨k + 1, by omega, by go_num, T.out, J2.out.setCell (fun _ => rfl) _⟩
        case measure => simp [intOf]; omega
      · by_cases h3 : f k = 3
        · have hcf : comF f k = 0 := by unfold comF; rw [if_neg h1, if_pos h3]
          have T := Lib.hid (RowI.congr (RowI.set J1.out k hlt 0) (fun i _ => mid_step f k 0 hcf i))
          rw [h3] at hck
          clear h1 h3 hcf
          go_wp2
          go_roundw
          case rel => exact ⟨k + 1, by omega, by go_num, T.out, J2.out.setCell (fun _ => rfl) _⟩
          case measure => simp [intOf]; omega
        · have hcf : comF f k = f k := by unfold comF; rw [if_neg h1, if_neg h3]
          have T := Lib.hid (RowI.congr J1.out (fun i _ => mid_same f k hcf i))
          have b1 : (f k == 1) = false := by rw [beq_eq_false_iff_ne]; exact h1
          have b3 : (f k == 3) = false := by rw [beq_eq_false_iff_ne]; exact h3
          clear h1 h3 hcf
          generalize f k = x at *
          go_wp2
          go_roundw
          case rel => exact ⟨k + 1, by omega, by go_num, T.out, J2.out⟩
          case measure => simp [intOf]; omega
    · obtain rfl : k = n := by omega
      have J1 := Lib.hid (RowI.congr (f' := comF f) hS (fun i hi => by unfold midF; rw [if_pos hi]))
      have J2 := Lib.hid M
      clear hS M H
      go_wp2
      go_returns
      exact HR.out _ _ ⟨rfl, J1.out, J2.out⟩
theorem take_nil (least : Int) (w : World) : Calls Try.prog 36 #[.pointer none, .int .i64 least] w fun e w' => e = .returned (.tuple #[.int .i64 0, .int .i64 2]) ∧ w = w' := by
  refine opq fun R HR => ?_
  go_enter Try.func36, Try.ntmps36
  go_wp2
  exact HR.out _ _ ⟨rfl, rfl⟩
theorem Take_nil (w : World) : Calls Try.prog 12 #[.pointer none] w fun e w' => e = .returned (.tuple #[.int .i64 0, .int .i64 2]) ∧ w = w' := by
  refine opq fun R HR => ?_
  go_enter Try.func12, Try.ntmps12
  go_wp2
  exact HR.out _ _ ⟨rfl, rfl⟩
theorem Move_nil (w : World) : Calls Try.prog 13 #[.pointer none] w fun e w' => e = .returned (.tuple #[.int .i64 0, .int .i64 2]) ∧ w = w' := by
  refine opq fun R HR => ?_
  go_enter Try.func13, Try.ntmps13
  go_wp2
  exact HR.out _ _ ⟨rfl, rfl⟩
theorem commit_nil (w : World) : Calls Try.prog 14 #[.pointer none] w fun e w' => e = .returned (.tuple #[]) ∧ w = w' := by
  refine opq fun R HR => ?_
  go_enter Try.func14, Try.ntmps14
  go_wp2
  go_returns
  exact HR.out _ _ ⟨rfl, rfl⟩
theorem give_nil (i : Int) (w : World) : Calls Try.prog 11 #[.pointer none, .int .i64 i] w fun e w' => e = .returned (.int .i64 2) ∧ w = w' := by
  refine opq fun R HR => ?_
  go_enter Try.func11, Try.ntmps11
  go_wp2
  exact HR.out _ _ ⟨rfl, rfl⟩
theorem mark_nil (i : Int) (w : World) : Calls Try.prog 22 #[.pointer none, .int .i64 i] w fun e w' => e = .returned (.int .i64 2) ∧ w = w' := by
  refine opq fun R HR => ?_
  go_enter Try.func22, Try.ntmps22
  go_wp2
  exact HR.out _ _ ⟨rfl, rfl⟩
theorem len_nil (w : World) : Calls Try.prog 23 #[.pointer none] w fun e w' => e = .returned (.int .i64 0) ∧ w = w' := by
  refine opq fun R HR => ?_
  go_enter Try.func23, Try.ntmps23
  go_wp2
  exact HR.out _ _ ⟨rfl, rfl⟩
theorem free_nil (w : World) : Calls Try.prog 17 #[.pointer none] w fun e w' => e = .returned (.int .i64 0) ∧ w = w' := by
  refine opq fun R HR => ?_
  go_enter Try.func17, Try.ntmps17
  go_wp2
  exact HR.out _ _ ⟨rfl, rfl⟩
theorem waits_nil (w : World) : Calls Try.prog 16 #[.pointer none] w fun e w' => e = .returned (.int .i64 0) ∧ w = w' := by
  refine opq fun R HR => ?_
  go_enter Try.func16, Try.ntmps16
  go_wp2
  exact HR.out _ _ ⟨rfl, rfl⟩
theorem room_nil (w : World) : Calls Try.prog 24 #[.pointer none] w fun e w' => e = .returned (.int .i64 0) ∧ w = w' := by
  refine opq fun R HR => ?_
  go_enter Try.func24, Try.ntmps24
  go_wp2
  exact HR.out _ _ ⟨rfl, rfl⟩
theorem used_nil (w : World) : Calls Try.prog 15 #[.pointer none] w fun e w' => e = .returned (.slice none 0 0) ∧ w = w' := by
  refine opq fun R HR => ?_
  go_enter Try.func15, Try.ntmps15
  go_wp2
  exact HR.out _ _ ⟨rfl, rfl⟩
end Go.Proofs.Yteommjbbjdbhkaa
