import Derived.Test.YthkcdoneghcglaaDoorScrL
import Derived.Laws.BytesArg
import Derived.Lib.ItoaLen
set_option linter.unusedSimpArgs false
set_option linter.unusedVariables false
namespace Go.Proofs.YthkcdoneghcglaaDoor
open Go Go.RowKit
theorem u8wrap (z : Int) : IntKind.u8.wrap z = z % 256 := by unfold IntKind.wrap; simp [IntKind.signed, IntKind.bits]
theorem wraps_u64 (z : Int) (h0 : 0 ≤ z) (h1 : z < 18446744073709551616) : IntKind.u64.wrap z = z := by
  unfold IntKind.wrap; simp [IntKind.signed, IntKind.bits]; omega
theorem conv1 (w : World) (v : Int) : (convert 72 9 (.slice (some ⟨w.heap.size, 0, none⟩) 1 1)).run Tryd.prog (w.alloc (.cells #[.int .u8 v] 5)) = .ok (.string (strOfNums [v])) (w.alloc (.cells #[.int .u8 v] 5)) := by
  refine run_convert_bytes_arg (P := Tryd.prog) _ 72 5 Tryd.underlying72 Tryd.underlying5 w.heap.size 0 1 1 [v] rfl ?_ 9 Tryd.underlying9
  intro i hi
  obtain rfl : i = 0 := by omega
  simp
/-- The digits of a number that is not 0; none of 0. -/
def dd (u : Nat) : List UInt8 := if u = 0 then [] else Lib.decDigits u
theorem dd_step (u : Nat) (h : 0 < u) : dd u = dd (u / 10) ++ [48 + UInt8.ofNat (u % 10)] := by
  unfold dd
  rw [if_neg (by omega)]
  by_cases q : u < 10
  · rw [Lib.decDigits, dif_pos q, if_pos (by omega), Nat.mod_eq_of_lt q, UInt8.ofNat_add]; rfl
  · rw [Lib.decDigits, dif_neg q, if_neg (by omega), UInt8.ofNat_add]; rfl
theorem dd_ne (u : Nat) (h : 0 < u) : dd u ≠ [] := by rw [dd_step u h]; simp
theorem str_app (a b : List UInt8) : (⟨a.toArray⟩ : ByteArray) ++ ⟨b.toArray⟩ = ⟨(a ++ b).toArray⟩ := by
  apply ByteArray.ext
  simp
set_option maxRecDepth 10000 in
set_option maxHeartbeats 1000000 in
theorem digits_any (n : Int) (hn : I64 n) (w : World) : Calls Tryd.prog 39 #[.int .i64 n] w fun e w' => e = .returned (.string ⟨(Lib.itoa n).toArray⟩) ∧ Same w w' := by
  refine opq fun R HR => ?_
  unfold I64 at hn
  by_cases hneg : n < 0
  · obtain ⟨u0, hu0⟩ : ∃ u0 : Nat, n = -(u0 : Int) := ⟨n.natAbs, by omega⟩
    have hi : Lib.itoa n = 45 :: Lib.decDigits u0 := by unfold Lib.itoa; rw [if_pos hneg]; congr 2; omega
    rw [hi] at HR
    have hwn : IntKind.u64.wrap n = 18446744073709551616 - (u0 : Int) := by
      unfold IntKind.wrap; simp [IntKind.signed, IntKind.bits]; omega
    have hw : IntKind.u64.wrap (-(18446744073709551616 - (u0 : Int))) = (u0 : Int) := by
      unfold IntKind.wrap; simp [IntKind.signed, IntKind.bits]; omega
    have hu1 : 0 < u0 := by omega
    have hub : (u0 : Int) ≤ 9223372036854775808 := by omega
    have HD := Lib.hid (show (dd u0).length ≤ 21 by have := Lib.itoa_length_le n hn.1 hn.2; rw [hi, List.length_cons] at this; unfold dd; split <;> simp <;> omega)
    have hdn : dd u0 = Lib.decDigits u0 := by unfold dd; rw [if_neg (by omega)]
    clear hu0 hi
    go_enter Tryd.func39, Tryd.ntmps39
    go_wp2_with fail
    go_loopw [3, 5] (fun v t wr => ∃ (u : Nat) (l : List UInt8), v = .int .u64 (u : Int) ∧ t = .string ⟨l.toArray⟩ ∧ dd u ++ l = dd u0 ∧ u ≤ u0 ∧ Same w wr) (fun v _ _ => (intOf v).toNat)
    case atStart => exact ⟨u0, [], by first | rfl | rw [hw], rfl, by simp, Nat.le_refl _, Mod.refl _ _⟩
    case round =>
      obtain ⟨u, l, rfl, rfl, hd, hle, hM⟩ := hrel
      have K1 := Lib.hid hM
      have hll : l.length ≤ 21 := by have := congrArg List.length hd; rw [List.length_append] at this; have := HD.out; omega
      have hbs := bytes_size l
      by_cases hlt : 0 < u
      · have kc := fun (w : World) => conv1 w (IntKind.u8.wrap (48 + (u : Int) % 10))
        have E := Lib.hid (show dd (u / 10) ++ ((48 + UInt8.ofNat (u % 10)) :: l) = dd u0 by rw [← hd, dd_step u hlt, List.append_assoc]; rfl)
        have e1 : IntKind.u8.wrap (48 + (u : Int) % 10) = 48 + (u : Int) % 10 := by rw [u8wrap]; omega
        have e2 : strOfNums [48 + (u : Int) % 10] ++ (⟨l.toArray⟩ : ByteArray) = ⟨((48 + UInt8.ofNat (u % 10)) :: l).toArray⟩ := by
          have : strOfNums [48 + (u : Int) % 10] = ⟨[48 + UInt8.ofNat (u % 10)].toArray⟩ := by
            unfold strOfNums; simp only [List.map_cons, List.map_nil]
            rw [show (48 + (u : Int) % 10).toNat = 48 + u % 10 from by omega, UInt8.ofNat_add]; rfl
          rw [this, str_app]; rfl
        have es : (strOfNums [48 + (u : Int) % 10]).size = 1 := strOfNums_size _
        have e5 : IntKind.u64.wrap ((u : Int) / 10) = ((u / 10 : Nat) : Int) := by rw [wraps_u64 _ (by omega) (by omega)]; omega
        rw [e1] at kc
        clear hd hM
        generalize strOfNums [48 + (u : Int) % 10] = sd at *
        go_wp2_with fail
        go_roundw
        case rel => exact ⟨u / 10, _, by first | rw [e5] | congr 1, by first | rfl | rw [e2], E.out, by omega, K1.out.alloc _⟩
        case measure => simp only [intOf]; omega
      · obtain rfl : u = 0 := by omega
        have hl : l = dd u0 := by rw [← hd]; rfl
        subst hl
        clear hd hM
        have hne := dd_ne u0 hu1
        have hq2 : (dd u0 == []) = false := by simp [hne]
        have hq3 : (dd u0).isEmpty = false := by simp [hne]
        rw [← hdn] at HR
        clear hdn HD
        generalize dd u0 = D at *
        have ea : (⟨#[45]⟩ : ByteArray) ++ ⟨D.toArray⟩ = ⟨(45 :: D).toArray⟩ := str_app [45] D
        go_wp2_with fail
        exact HR.out _ _ ⟨rfl, K1.out⟩
  · obtain ⟨u0, hu0⟩ : ∃ u0 : Nat, n = (u0 : Int) := ⟨n.toNat, by omega⟩
    have hi : Lib.itoa n = Lib.decDigits u0 := by unfold Lib.itoa; rw [if_neg hneg]; congr 1; omega
    rw [hi] at HR
    have hub : (u0 : Int) ≤ 9223372036854775808 := by omega
    have hw : IntKind.u64.wrap n = (u0 : Int) := by rw [hu0]; exact wraps_u64 _ (by omega) (by omega)
    have HD := Lib.hid (show (dd u0).length ≤ 21 by have := Lib.itoa_length_le n hn.1 hn.2; rw [hi] at this; unfold dd; split <;> simp <;> omega)
    clear hi
    go_enter Tryd.func39, Tryd.ntmps39
    go_wp2_with fail
    go_loopw [3, 5] (fun v t wr => ∃ (u : Nat) (l : List UInt8), v = .int .u64 (u : Int) ∧ t = .string ⟨l.toArray⟩ ∧ dd u ++ l = dd u0 ∧ u ≤ u0 ∧ Same w wr) (fun v _ _ => (intOf v).toNat)
    case atStart => exact ⟨u0, [], by first | rfl | rw [hw], rfl, by simp, Nat.le_refl _, Mod.refl _ _⟩
    case round =>
      obtain ⟨u, l, rfl, rfl, hd, hle, hM⟩ := hrel
      have K1 := Lib.hid hM
      have hll : l.length ≤ 21 := by have := congrArg List.length hd; rw [List.length_append] at this; have := HD.out; omega
      have hbs := bytes_size l
      by_cases hlt : 0 < u
      · have kc := fun (w : World) => conv1 w (IntKind.u8.wrap (48 + (u : Int) % 10))
        have E := Lib.hid (show dd (u / 10) ++ ((48 + UInt8.ofNat (u % 10)) :: l) = dd u0 by rw [← hd, dd_step u hlt, List.append_assoc]; rfl)
        have e1 : IntKind.u8.wrap (48 + (u : Int) % 10) = 48 + (u : Int) % 10 := by rw [u8wrap]; omega
        have e2 : strOfNums [48 + (u : Int) % 10] ++ (⟨l.toArray⟩ : ByteArray) = ⟨((48 + UInt8.ofNat (u % 10)) :: l).toArray⟩ := by
          have : strOfNums [48 + (u : Int) % 10] = ⟨[48 + UInt8.ofNat (u % 10)].toArray⟩ := by
            unfold strOfNums; simp only [List.map_cons, List.map_nil]
            rw [show (48 + (u : Int) % 10).toNat = 48 + u % 10 from by omega, UInt8.ofNat_add]; rfl
          rw [this, str_app]; rfl
        have es : (strOfNums [48 + (u : Int) % 10]).size = 1 := strOfNums_size _
        have e5 : IntKind.u64.wrap ((u : Int) / 10) = ((u / 10 : Nat) : Int) := by rw [wraps_u64 _ (by omega) (by omega)]; omega
        rw [e1] at kc
        clear hd hM
        generalize strOfNums [48 + (u : Int) % 10] = sd at *
        go_wp2_with fail
        go_roundw
        case rel => exact ⟨u / 10, _, by first | rw [e5] | congr 1, by first | rfl | rw [e2], E.out, by omega, K1.out.alloc _⟩
        case measure => simp only [intOf]; omega
      · obtain rfl : u = 0 := by omega
        have hl : l = dd u0 := by rw [← hd]; rfl
        subst hl
        clear hd hM
        by_cases h0 : u0 = 0
        · subst h0
          have e : dd 0 = [] := rfl
          rw [e] at *
          have hz : Lib.decDigits 0 = [48] := by rw [Lib.decDigits]; rfl
          rw [hz] at HR
          go_wp2_with fail
          exact HR.out _ _ ⟨rfl, K1.out⟩
        · have hne := dd_ne u0 (by omega)
          have hq2 : (dd u0 == []) = false := by simp [hne]
          have hq3 : (dd u0).isEmpty = false := by simp [hne]
          have hdn : dd u0 = Lib.decDigits u0 := by unfold dd; rw [if_neg h0]
          rw [← hdn] at HR
          clear hdn HD
          generalize dd u0 = D at *
          have ea : (⟨#[]⟩ : ByteArray) ++ ⟨D.toArray⟩ = ⟨D.toArray⟩ := str_app [] D
          go_wp2_with fail
          exact HR.out _ _ ⟨rfl, K1.out⟩

end Go.Proofs.YthkcdoneghcglaaDoor
