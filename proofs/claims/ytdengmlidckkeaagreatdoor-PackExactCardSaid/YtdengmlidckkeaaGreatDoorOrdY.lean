import Derived.Test.YtdengmlidckkeaaGreatDoorOrdW
set_option linter.unusedSimpArgs false
set_option linter.unusedVariables false
namespace Go.Proofs.YtdengmlidckkeaaGreatDoor
open Go Go.RowKit
/-- The kind that a number tells. -/
def kin (z : Int) : Nat := ((IntKind.u64.wrap z).tmod 15).toNat
theorem kin_lt (z : Int) : kin z < 15 := by
  unfold kin
  have h0 : 0 ≤ IntKind.u64.wrap z := (u64wrap_nonneg z).1
  have h1 := Int.tmod_lt_of_pos (IntKind.u64.wrap z) (show (0 : Int) < 15 by omega)
  have h2 := Int.tmod_nonneg 15 h0
  omega
theorem kin_int (z : Int) : (IntKind.u64.wrap z).tmod 15 = (kin z : Int) := by
  unfold kin
  have h0 : 0 ≤ IntKind.u64.wrap z := (u64wrap_nonneg z).1
  have h2 := Int.tmod_nonneg 15 h0
  omega
/-- An order of a kind, of numbers and texts. -/
def madeO (z a b c : Int) (s t u : List UInt8) : OW := ⟨kin z, [a, b, c].take (nN (kin z)), [s, t, u].take (nD (kin z))⟩
theorem made_form (z a b c : Int) (s t u : List UInt8) (ha : I64 a) (hb : I64 b) (hc : I64 c) : (madeO z a b c s t u).form := by
  have hk := kin_lt z
  have h3 : ∀ k, k < 15 → nN k ≤ 3 ∧ nD k ≤ 3 := by decide
  have := h3 _ hk
  refine ⟨hk, ?_, ?_, fun n hn => ?_⟩
  · show ([a, b, c].take (nN (kin z))).length = nN (kin z); rw [List.length_take]; simp; omega
  · show ([s, t, u].take (nD (kin z))).length = nD (kin z); rw [List.length_take]; simp; omega
  · have := List.mem_of_mem_take hn
    simp at this
    rcases this with rfl | rfl | rfl <;> assumption
theorem made_fits (z a b c : Int) (s t u : List UInt8) (hs : s.length ≤ 512) (ht : t.length ≤ 512) (hu : u.length ≤ 512) : (madeO z a b c s t u).fits = true := by
  unfold OW.fits
  rw [List.all_eq_true]
  intro x hx
  have := List.mem_of_mem_take hx
  simp at this
  rcases this with rfl | rfl | rfl <;> exact decide_eq_true (by assumption)
set_option maxRecDepth 10000 in
set_option maxHeartbeats 2000000 in
theorem made_any (z a b c : Int) (s t u : List UInt8) (w : World) : Calls Tryz.prog 7 #[.int .i64 z, .int .i64 a, .int .i64 b, .int .i64 c, .string ⟨s.toArray⟩, .string ⟨t.toArray⟩, .string ⟨u.toArray⟩] w fun e w' => e = .returned (ordW (madeO z a b c s t u)) ∧ w' = w := by
  refine opq fun R HR => ?_
  have hk := kin_lt z
  have hki := kin_int z
  unfold madeO at HR
  generalize kin z = k at *
  generalize hbs : (⟨s.toArray⟩ : ByteArray) = bs at *
  generalize hbt : (⟨t.toArray⟩ : ByteArray) = bt at *
  generalize hbu : (⟨u.toArray⟩ : ByteArray) = bu at *
  have HS := Lib.hid hbs
  have HT := Lib.hid hbt
  have HU := Lib.hid hbu
  clear hbs hbt hbu
  rcases kinds15 hk with rfl | rfl | rfl | rfl | rfl | rfl | rfl | rfl | rfl | rfl | rfl | rfl | rfl | rfl | rfl
  · have hz : (IntKind.u64.wrap z).tmod 15 = 0 := hki
    clear hki hk
    go_enter Tryz.func7, Tryz.ntmps7
    go_wp2
    exact HR.out _ _ ⟨rfl, rfl⟩
  · have hz : (IntKind.u64.wrap z).tmod 15 = 1 := hki
    clear hki hk
    go_enter Tryz.func7, Tryz.ntmps7
    go_wp2
    exact HR.out _ _ ⟨rfl, rfl⟩
  · have hz : (IntKind.u64.wrap z).tmod 15 = 2 := hki
    clear hki hk
    go_enter Tryz.func7, Tryz.ntmps7
    go_wp2
    exact HR.out _ _ ⟨rfl, rfl⟩
  · have hz : (IntKind.u64.wrap z).tmod 15 = 3 := hki
    clear hki hk
    go_enter Tryz.func7, Tryz.ntmps7
    go_wp2
    exact HR.out _ _ ⟨rfl, rfl⟩
  · have hz : (IntKind.u64.wrap z).tmod 15 = 4 := hki
    clear hki hk
    go_enter Tryz.func7, Tryz.ntmps7
    go_wp2
    exact HR.out _ _ ⟨rfl, rfl⟩
  · have hz : (IntKind.u64.wrap z).tmod 15 = 5 := hki
    clear hki hk
    go_enter Tryz.func7, Tryz.ntmps7
    go_wp2
    exact HR.out _ _ ⟨rfl, rfl⟩
  · have hz : (IntKind.u64.wrap z).tmod 15 = 6 := hki
    clear hki hk
    go_enter Tryz.func7, Tryz.ntmps7
    go_wp2
    exact HR.out _ _ ⟨rfl, rfl⟩
  · have hz : (IntKind.u64.wrap z).tmod 15 = 7 := hki
    clear hki hk
    go_enter Tryz.func7, Tryz.ntmps7
    go_wp2
    exact HR.out _ _ ⟨by rw [← HS.out]; rfl, rfl⟩
  · have hz : (IntKind.u64.wrap z).tmod 15 = 8 := hki
    clear hki hk
    go_enter Tryz.func7, Tryz.ntmps7
    go_wp2
    exact HR.out _ _ ⟨rfl, rfl⟩
  · have hz : (IntKind.u64.wrap z).tmod 15 = 9 := hki
    clear hki hk
    go_enter Tryz.func7, Tryz.ntmps7
    go_wp2
    exact HR.out _ _ ⟨rfl, rfl⟩
  · have hz : (IntKind.u64.wrap z).tmod 15 = 10 := hki
    clear hki hk
    go_enter Tryz.func7, Tryz.ntmps7
    go_wp2
    exact HR.out _ _ ⟨rfl, rfl⟩
  · have hz : (IntKind.u64.wrap z).tmod 15 = 11 := hki
    clear hki hk
    go_enter Tryz.func7, Tryz.ntmps7
    go_wp2
    exact HR.out _ _ ⟨rfl, rfl⟩
  · have hz : (IntKind.u64.wrap z).tmod 15 = 12 := hki
    clear hki hk
    go_enter Tryz.func7, Tryz.ntmps7
    go_wp2
    exact HR.out _ _ ⟨rfl, rfl⟩
  · have hz : (IntKind.u64.wrap z).tmod 15 = 13 := hki
    clear hki hk
    go_enter Tryz.func7, Tryz.ntmps7
    go_wp2
    exact HR.out _ _ ⟨rfl, rfl⟩
  · have hz : (IntKind.u64.wrap z).tmod 15 = 14 := hki
    clear hki hk
    go_enter Tryz.func7, Tryz.ntmps7
    go_wp2
    exact HR.out _ _ ⟨by rw [← HS.out, ← HT.out, ← HU.out]; rfl, rfl⟩
end Go.Proofs.YtdengmlidckkeaaGreatDoor
