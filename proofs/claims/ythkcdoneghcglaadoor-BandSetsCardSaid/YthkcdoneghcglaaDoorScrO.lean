import Derived.Test.YthkcdoneghcglaaDoorScrN
set_option linter.unusedSimpArgs false
set_option linter.unusedVariables false
/- The document's digits of a sum. -/
namespace Go.Proofs.YthkcdoneghcglaaDoor
open Go Go.RowKit
theorem hexCut (d : Nat) (hd : d < 16) : (⟨#[48, 49, 50, 51, 52, 53, 54, 55, 56, 57, 97, 98, 99, 100, 101, 102]⟩ : ByteArray).extract d (d + 1) = ⟨#[hexC d]⟩ := by
  exact (show ∀ d : Fin 16, (⟨#[48, 49, 50, 51, 52, 53, 54, 55, 56, 57, 97, 98, 99, 100, 101, 102]⟩ : ByteArray).extract d.1 (d.1 + 1) = ⟨#[hexC d.1]⟩ by decide +kernel) ⟨d, hd⟩
theorem one_app (a : List UInt8) (c : UInt8) : (⟨a.toArray⟩ : ByteArray) ++ ⟨#[c]⟩ = ⟨(a ++ [c]).toArray⟩ := str_app a [c]
set_option maxRecDepth 10000 in
set_option maxHeartbeats 1000000 in
theorem rhex_any (h : Nat) (hh : h < 4294967296) (w : World) : Calls Tryd.prog 40 #[.int .u32 (h : Int)] w fun e w' => e = .returned (strV (hexL h)) ∧ w' = w := by
  refine opq fun R HR => ?_
  go_enter Tryd.func40, Tryd.ntmps40
  go_wp2_with fail
  go_loopw [5, 4] (fun i v wr => ∃ k : Nat, k ≤ 8 ∧ i = .int .i64 k ∧ v = .string ⟨((hexL h).take k).toArray⟩ ∧ wr = w) (fun i _ _ => 8 - (intOf i).toNat)
  case atStart => exact ⟨0, by omega, rfl, rfl, rfl⟩
  case round =>
    obtain ⟨k, hk, rfl, rfl, rfl⟩ := hrel
    by_cases hlt : k < 8
    · have hk8 : k = 0 ∨ k = 1 ∨ k = 2 ∨ k = 3 ∨ k = 4 ∨ k = 5 ∨ k = 6 ∨ k = 7 := by omega
      rcases hk8 with rfl | rfl | rfl | rfl | rfl | rfl | rfl | rfl
      · have hd : h / 268435456 % 16 < 16 := Nat.mod_lt _ (by decide)
        have hand : bits .and .u32 ((h : Int) / 268435456) 15 = ((h / 268435456 % 16 : Nat) : Int) := by
          have := and15 (h / 268435456) (by omega)
          first
          | exact this
          | (rw [← this]; congr 1)
        have hcut := hexCut (h / 268435456 % 16) hd
        have hts : (⟨((hexL h).take 0).toArray⟩ : ByteArray).size = 0 := rfl
        have E := Lib.hid (show (hexL h).take 1 = (hexL h).take 0 ++ [hexC (h / 268435456 % 16)] from rfl)
        have E2 := Lib.hid (one_app ((hexL h).take 0) (hexC (h / 268435456 % 16)))
        generalize h / 268435456 % 16 = d at *
        generalize (hexL h).take 0 = t at *
        go_wp2_with fail
        go_roundw
        case rel => exact ⟨1, by omega, by go_num, by rw [E.out, ← E2.out], trivial⟩
        case measure => simp [intOf]
      · have hd : h / 16777216 % 16 < 16 := Nat.mod_lt _ (by decide)
        have hand : bits .and .u32 ((h : Int) / 16777216) 15 = ((h / 16777216 % 16 : Nat) : Int) := by
          have := and15 (h / 16777216) (by omega)
          first
          | exact this
          | (rw [← this]; congr 1)
        have hcut := hexCut (h / 16777216 % 16) hd
        have hts : (⟨((hexL h).take 1).toArray⟩ : ByteArray).size = 1 := rfl
        have E := Lib.hid (show (hexL h).take 2 = (hexL h).take 1 ++ [hexC (h / 16777216 % 16)] from rfl)
        have E2 := Lib.hid (one_app ((hexL h).take 1) (hexC (h / 16777216 % 16)))
        generalize h / 16777216 % 16 = d at *
        generalize (hexL h).take 1 = t at *
        go_wp2_with fail
        go_roundw
        case rel => exact ⟨2, by omega, by go_num, by rw [E.out, ← E2.out], trivial⟩
        case measure => simp [intOf]
      · have hd : h / 1048576 % 16 < 16 := Nat.mod_lt _ (by decide)
        have hand : bits .and .u32 ((h : Int) / 1048576) 15 = ((h / 1048576 % 16 : Nat) : Int) := by
          have := and15 (h / 1048576) (by omega)
          first
          | exact this
          | (rw [← this]; congr 1)
        have hcut := hexCut (h / 1048576 % 16) hd
        have hts : (⟨((hexL h).take 2).toArray⟩ : ByteArray).size = 2 := rfl
        have E := Lib.hid (show (hexL h).take 3 = (hexL h).take 2 ++ [hexC (h / 1048576 % 16)] from rfl)
        have E2 := Lib.hid (one_app ((hexL h).take 2) (hexC (h / 1048576 % 16)))
        generalize h / 1048576 % 16 = d at *
        generalize (hexL h).take 2 = t at *
        go_wp2_with fail
        go_roundw
        case rel => exact ⟨3, by omega, by go_num, by rw [E.out, ← E2.out], trivial⟩
        case measure => simp [intOf]
      · have hd : h / 65536 % 16 < 16 := Nat.mod_lt _ (by decide)
        have hand : bits .and .u32 ((h : Int) / 65536) 15 = ((h / 65536 % 16 : Nat) : Int) := by
          have := and15 (h / 65536) (by omega)
          first
          | exact this
          | (rw [← this]; congr 1)
        have hcut := hexCut (h / 65536 % 16) hd
        have hts : (⟨((hexL h).take 3).toArray⟩ : ByteArray).size = 3 := rfl
        have E := Lib.hid (show (hexL h).take 4 = (hexL h).take 3 ++ [hexC (h / 65536 % 16)] from rfl)
        have E2 := Lib.hid (one_app ((hexL h).take 3) (hexC (h / 65536 % 16)))
        generalize h / 65536 % 16 = d at *
        generalize (hexL h).take 3 = t at *
        go_wp2_with fail
        go_roundw
        case rel => exact ⟨4, by omega, by go_num, by rw [E.out, ← E2.out], trivial⟩
        case measure => simp [intOf]
      · have hd : h / 4096 % 16 < 16 := Nat.mod_lt _ (by decide)
        have hand : bits .and .u32 ((h : Int) / 4096) 15 = ((h / 4096 % 16 : Nat) : Int) := by
          have := and15 (h / 4096) (by omega)
          first
          | exact this
          | (rw [← this]; congr 1)
        have hcut := hexCut (h / 4096 % 16) hd
        have hts : (⟨((hexL h).take 4).toArray⟩ : ByteArray).size = 4 := rfl
        have E := Lib.hid (show (hexL h).take 5 = (hexL h).take 4 ++ [hexC (h / 4096 % 16)] from rfl)
        have E2 := Lib.hid (one_app ((hexL h).take 4) (hexC (h / 4096 % 16)))
        generalize h / 4096 % 16 = d at *
        generalize (hexL h).take 4 = t at *
        go_wp2_with fail
        go_roundw
        case rel => exact ⟨5, by omega, by go_num, by rw [E.out, ← E2.out], trivial⟩
        case measure => simp [intOf]
      · have hd : h / 256 % 16 < 16 := Nat.mod_lt _ (by decide)
        have hand : bits .and .u32 ((h : Int) / 256) 15 = ((h / 256 % 16 : Nat) : Int) := by
          have := and15 (h / 256) (by omega)
          first
          | exact this
          | (rw [← this]; congr 1)
        have hcut := hexCut (h / 256 % 16) hd
        have hts : (⟨((hexL h).take 5).toArray⟩ : ByteArray).size = 5 := rfl
        have E := Lib.hid (show (hexL h).take 6 = (hexL h).take 5 ++ [hexC (h / 256 % 16)] from rfl)
        have E2 := Lib.hid (one_app ((hexL h).take 5) (hexC (h / 256 % 16)))
        generalize h / 256 % 16 = d at *
        generalize (hexL h).take 5 = t at *
        go_wp2_with fail
        go_roundw
        case rel => exact ⟨6, by omega, by go_num, by rw [E.out, ← E2.out], trivial⟩
        case measure => simp [intOf]
      · have hd : h / 16 % 16 < 16 := Nat.mod_lt _ (by decide)
        have hand : bits .and .u32 ((h : Int) / 16) 15 = ((h / 16 % 16 : Nat) : Int) := by
          have := and15 (h / 16) (by omega)
          first
          | exact this
          | (rw [← this]; congr 1)
        have hcut := hexCut (h / 16 % 16) hd
        have hts : (⟨((hexL h).take 6).toArray⟩ : ByteArray).size = 6 := rfl
        have E := Lib.hid (show (hexL h).take 7 = (hexL h).take 6 ++ [hexC (h / 16 % 16)] from rfl)
        have E2 := Lib.hid (one_app ((hexL h).take 6) (hexC (h / 16 % 16)))
        generalize h / 16 % 16 = d at *
        generalize (hexL h).take 6 = t at *
        go_wp2_with fail
        go_roundw
        case rel => exact ⟨7, by omega, by go_num, by rw [E.out, ← E2.out], trivial⟩
        case measure => simp [intOf]
      · have hd : h % 16 < 16 := Nat.mod_lt _ (by decide)
        have hand : bits .and .u32 ((h : Int)) 15 = ((h % 16 : Nat) : Int) := by
          have := and15 (h) (by omega)
          first
          | exact this
          | (rw [← this]; congr 1)
        have hcut := hexCut (h % 16) hd
        have hts : (⟨((hexL h).take 7).toArray⟩ : ByteArray).size = 7 := rfl
        have E := Lib.hid (show (hexL h).take 8 = (hexL h).take 7 ++ [hexC (h % 16)] from rfl)
        have E2 := Lib.hid (one_app ((hexL h).take 7) (hexC (h % 16)))
        generalize h % 16 = d at *
        generalize (hexL h).take 7 = t at *
        go_wp2_with fail
        go_roundw
        case rel => exact ⟨8, by omega, by go_num, by rw [E.out, ← E2.out], trivial⟩
        case measure => simp [intOf]
    · obtain rfl : k = 8 := by omega
      go_wp2
      exact HR.out _ _ ⟨rfl, rfl⟩
end Go.Proofs.YthkcdoneghcglaaDoor
