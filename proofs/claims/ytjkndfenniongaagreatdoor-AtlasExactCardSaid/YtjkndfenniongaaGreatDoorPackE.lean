import Derived.Test.YtjkndfenniongaaGreatDoorPackD
import Derived.Lib.ConvBytes
set_option linter.unusedSimpArgs false
set_option linter.unusedVariables false
namespace Go.Proofs.YtjkndfenniongaaGreatDoor
open Go Go.RowKit
/-- A bit of a sum. -/
def bitStep (c : Int) : Int := if bits .and .u32 c 1 = 1 then bits .xor .u32 (c / 2) 2197175160 else c / 2
def bitN (c : Int) : Nat → Int
  | 0 => c
  | j + 1 => bitStep (bitN c j)
def stepI (c b : Int) : Int := bitN (bits .xor .u32 c (b % 4294967296)) 8
set_option maxRecDepth 10000 in
theorem step_any (c b : Int) (w : World) : Calls Tryz.prog 90 #[.int .u32 c, .int .u8 b] w fun e w' => e = .returned (.int .u32 (stepI c b)) ∧ w' = w := by
  refine opq fun R HR => ?_
  go_enter Tryz.func90, Tryz.ntmps90
  unfold stepI at HR
  go_wp2_with fail
  generalize bits .xor .u32 c (b % 4294967296) = d at *
  go_loopw [0, 9] (fun v i wr => ∃ j : Nat, j ≤ 8 ∧ i = .int .i64 j ∧ v = .int .u32 (bitN d j) ∧ wr = w) (fun _ i _ => 8 - (intOf i).toNat)
  case atStart => exact ⟨0, by omega, rfl, rfl, rfl⟩
  case round =>
    obtain ⟨j, hj, rfl, rfl, rfl⟩ := hrel
    by_cases hlt : j < 8
    · have e : bitN d (j + 1) = bitStep (bitN d j) := rfl
      have E := Lib.hid e
      clear e
      generalize bitN d j = x at *
      by_cases hb : bits .and .u32 x 1 = 1
      · have e2 : bitStep x = bits .xor .u32 (x / 2) 2197175160 := if_pos hb
        have E2 := Lib.hid e2
        have hb' : (bits .and .u32 x 1 == 1) = true := by rw [hb]; rfl
        clear e2
        go_wp2
        go_roundw
        case rel => exact ⟨j + 1, by omega, by go_num, by rw [E.out, E2.out], by first | rfl | trivial⟩
        case measure => simp [intOf]; omega
      · have e2 : bitStep x = x / 2 := if_neg hb
        have E2 := Lib.hid e2
        have hb' : (bits .and .u32 x 1 == 1) = false := by simp [hb]
        clear e2
        go_wp2
        go_roundw
        case rel => exact ⟨j + 1, by omega, by go_num, by rw [E.out, E2.out], by first | rfl | trivial⟩
        case measure => simp [intOf]; omega
    · obtain rfl : j = 8 := by omega
      go_wp2
      exact HR.out _ _ ⟨rfl, rfl⟩
/-- The sum of bytes. -/
def sumFrom (c : Int) : List UInt8 → Int
  | [] => c
  | b :: l => sumFrom (stepI c b.toNat) l
def sumL (l : List UInt8) : Int := bits .xor .u32 (sumFrom 4294967295 l) 4294967295
theorem sumFrom_snoc (l : List UInt8) (b : UInt8) : ∀ c, sumFrom c (l ++ [b]) = stepI (sumFrom c l) b.toNat := by
  induction l with
  | nil => intro c; rfl
  | cons a l ih => intro c; exact ih _
theorem sumFrom_take (c : Int) (l : List UInt8) (j : Nat) (hj : j < l.length) : sumFrom c (l.take (j + 1)) = stepI (sumFrom c (l.take j)) (l.getD j 0).toNat := by
  rw [List.take_succ_eq_append_getElem hj, sumFrom_snoc, List.getD_eq_getElem?_getD, List.getElem?_eq_getElem hj]; rfl
/-- The world behind '[]byte(s)'. -/
theorem bytes_same (w : World) (s : ByteArray) : Same w (Lib.bytesWorld w 5 s) := ⟨rfl, rfl, rfl, by rw [Lib.bytesWorld_size]; omega, fun k hk _ => Lib.bytesWorld_at_old w 5 s k hk⟩
theorem size_toList (s : ByteArray) : s.data.toList.length = s.size := Array.length_toList
set_option maxRecDepth 10000 in
theorem sum_any (s : ByteArray) (w : World) (hs : s.size ≤ 140737488355328) : Calls Tryz.prog 74 #[.string s] w fun e w' => e = .returned (.int .u32 (sumL s.data.toList)) ∧ Same w w' := by
  refine opq fun R HR => ?_
  have kc := Lib.run_convert_string_bytes (P := Tryz.prog) w 9 40 5 s Tryz.underlying9 Tryz.underlying40 Tryz.underlying5
  have S1 := Lib.hid (bytes_same w s)
  have hcell := fun j hj => Lib.bytesWorld_cell w 5 s j hj
  have hlt : w.heap.size < (Lib.bytesWorld w 5 s).heap.size := by rw [Lib.bytesWorld_size]; omega
  unfold sumL at HR
  generalize hl : s.data.toList = l at *
  have hll : l.length = s.size := by rw [← hl]; exact size_toList s
  generalize Lib.bytesWorld w 5 s = W at *
  generalize w.heap.size = Z at *
  generalize grownCap w s.size 0 5 = cap at *
  have HC := Lib.hid hcell
  have HL := Lib.hid hll
  clear hcell hl hll
  go_enter Tryz.func74, Tryz.ntmps74
  go_wp2_with fail
  generalize s.size = n at *
  clear kc
  go_loopw [9, 3, 5] (fun i c _ wr => ∃ j : Nat, j ≤ n ∧ i = .int .i64 j ∧ c = .int .u32 (sumFrom 4294967295 (l.take j)) ∧ wr = W) (fun i _ _ _ => n - (intOf i).toNat)
  case atStart => exact ⟨0, by omega, rfl, rfl, rfl⟩
  case round =>
    obtain ⟨j, hj, rfl, rfl, rfl⟩ := hrel
    by_cases hlt2 : j < n
    · have hc := HC.out j hlt2
      have E := Lib.hid (sumFrom_take 4294967295 l j (by rw [HL.out]; exact hlt2))
      generalize sumFrom 4294967295 (l.take j) = x at *
      generalize (l.getD j 0).toNat = y at *
      have HS := Lib.hid (step_any x y wr)
      go_wp2_with fail
      refine HS.out.mono ?_
      rintro e w1 ⟨rfl, rfl⟩
      go_wp2
      go_roundw
      case rel => exact ⟨j + 1, by omega, by go_num, by rw [E.out], by first | rfl | trivial⟩
      case measure => simp [intOf]; omega
    · obtain rfl : j = n := by omega
      have e : l.take j = l := List.take_of_length_le (by rw [HL.out]; exact Nat.le_refl _)
      rw [e]
      go_wp2
      exact HR.out _ _ ⟨rfl, S1.out⟩
end Go.Proofs.YtjkndfenniongaaGreatDoor
