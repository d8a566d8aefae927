import Derived.Test.YtdengmlidckkeaaGreatDoorOrdC
import Derived.Lib.QuoteLoop
import Derived.Lib.AtoiAllCases
set_option linter.unusedSimpArgs false
set_option linter.unusedVariables false
namespace Go.Proofs.YtdengmlidckkeaaGreatDoor
open Go Go.RowKit
theorem thin_bd (s : ByteArray) (pos : Nat) (h : pos < s.size) : -2147483648 ≤ thin (Utf8.decode s pos).1 ∧ thin (Utf8.decode s pos).1 ≤ 2147483647 := by
  have := decode_le s pos
  unfold thin; split <;> omega
theorem width_le (s : ByteArray) (pos : Nat) (h : pos < s.size) : pos + (Utf8.decode s pos).2 ≤ s.size := by
  rw [Lib.decode_at]
  have := Lib.decodeN_width_le (s.size - pos) (s.get! pos).toNat (s.get! (pos + 1)).toNat (s.get! (pos + 2)).toNat (s.get! (pos + 3)).toNat (by omega)
  omega
set_option maxHeartbeats 4000000 in
set_option maxRecDepth 100000 in
theorem number_any (s : ByteArray) (hs : s.size ≤ 100000) (w : World) (hv : VarsOK w) :
    Calls Tryz.prog 32 #[.string s] w fun e w' => e = .returned (.tuple #[.int .i64 (numberL s).1, .bool (numberL s).2]) ∧ Same w w' := by
  refine opq fun R HR => ?_
  have HV := Lib.hid hv
  clear hv
  go_enter Tryz.func32, Tryz.ntmps32
  go_wp2_with fail
  go_loopw [6] (fun _ wr => ∃ (pos fuel : Nat) (acc : List UInt8), Lib.IsBuilderF 113 5 w.heap.size w.heap.size (Lib.byteCells acc) wr ∧ wr.heap[w.heap.size + 1]? = some (.stringIter s pos) ∧ Below w.heap.size w wr ∧ acc ++ thinFrom s fuel pos = thinL s ∧ s.size ≤ pos + fuel ∧ acc.length ≤ 4 * pos ∧ pos ≤ s.size) (fun _ wr => s.size - wr.iterPos (w.heap.size + 1))
  case atStart =>
    refine ⟨0, s.size, [], (Lib.IsBuilderF.of (Lib.fresh_isBuilder 113 5 w)).alloc _, ?_, ((Below.refl _ w).alloc (Nat.le_refl _) _).alloc (by simp) _, rfl, by omega, by simp, by omega⟩
    have := World.iter_heap (w.alloc (.cells #[.pointer none, .slice none 0 0] 113)) s 0
    simpa using this
  case round =>
    obtain ⟨pos, fuel, acc, hI, hit, hbw, hacc, hfu, hal, hps⟩ := hrel
    have hsz : w.heap.size + 1 < wr.heap.size := (Array.getElem?_eq_some_iff.1 hit).1
    by_cases hp : pos < s.size
    · have hnx : ∀ ty, (Instr.next (.pointer (some ⟨w.heap.size + 1, 0, none⟩)) true ty).run Tryz.prog wr = _ := fun ty => Lib.run_next_any_at wr (w.heap.size + 1) s pos ty hit hp
      have hwd := width_pos s pos hp
      have hwl := width_le s pos hp
      have hd1 := decode_le s pos
      have hI2 := Lib.hid (hI.iterAt hit (pos + (Utf8.decode s pos).2))
      have hit2 := Lib.hid (Lib.iterAt_heap wr (w.heap.size + 1) s pos (pos + (Utf8.decode s pos).2) hit)
      have hbw2 := Lib.hid (Lib.below_iterAt hbw (k := w.heap.size + 1) (by omega) s (pos + (Utf8.decode s pos).2))
      have hsz2 : w.heap.size ≤ (wr.iterAt (w.heap.size + 1) s (pos + (Utf8.decode s pos).2)).heap.size := by rw [Lib.iterAt_size]; omega
      obtain ⟨f, rfl⟩ : ∃ f, fuel = f + 1 := ⟨fuel - 1, by omega⟩
      have hbd := thin_bd s pos hp
      have HT := Lib.hid (show thinFrom s (f + 1) pos = Lib.encodeRune (thin (Utf8.decode s pos).1) ++ thinFrom s f (pos + (Utf8.decode s pos).2) by simp only [thinFrom, if_pos hp])
      have hl4 := Lib.runeCells_le (thin (Utf8.decode s pos).1)
      rw [Lib.runeCells_length] at hl4
      have HW := Lib.hid (Tryz.Builder_WriteRune_k w.heap.size w.heap.size (Lib.byteCells acc) (thin (Utf8.decode s pos).1) hbd.1 hbd.2 _ hI2.out (by rw [Lib.byteCells_length]; omega) hsz2)
      have HAc := Lib.hid hacc
      have hitq := hit
      clear hI hbw hacc hit
      have hitp := Lib.hid hitq
      clear hitq
      have htd : thin (Utf8.decode s pos).1 = if 65296 ≤ ((Utf8.decode s pos).1 : Int) ∧ ((Utf8.decode s pos).1 : Int) ≤ 65305 then ((Utf8.decode s pos).1 : Int) - 65296 + 48 else ((Utf8.decode s pos).1 : Int) := rfl
      generalize thin (Utf8.decode s pos).1 = t at *
      generalize (Utf8.decode s pos).2 = k at *
      generalize (Utf8.decode s pos).1 = r at *
      by_cases h1 : 65296 ≤ (r : Int)
      · by_cases h2 : (r : Int) ≤ 65305
        · rw [if_pos ⟨h1, h2⟩] at htd
          subst htd
          have d1 : decide ((65296 : Int) ≤ (r : Int)) = true := decide_eq_true h1
          have d2 : decide ((r : Int) ≤ 65305) = true := decide_eq_true h2
          have hw1 : IntKind.i32.wrap ((r : Int) - 65296) = (r : Int) - 65296 := by unfold IntKind.wrap; simp [IntKind.signed, IntKind.bits]; omega
          have hw2 : IntKind.i32.wrap ((r : Int) - 65296 + 48) = (r : Int) - 65296 + 48 := by unfold IntKind.wrap; simp [IntKind.signed, IntKind.bits]; omega
          go_wp2_with fail
          refine HW.out.mono ?_
          rintro e W1 ⟨rfl, hb1, b1, k1⟩
          have L1 := Lib.hid hb1
          have L2 := Lib.hid (hbw2.out.trans b1)
          have L3 := Lib.hid (k1.iter hit2.out (by omega))
          clear hb1 b1 k1 HW hnx hI2 hbw2
          go_wp2_with fail
          go_roundw
          case rel =>
            refine ⟨pos + k, f, acc ++ Lib.encodeRune ((r : Int) - 65296 + 48), ?_, L3.out, L2.out, ?_, by omega, by rw [List.length_append]; omega, hwl⟩
            · rw [Lib.byteCells_append, Lib.byteCells_encodeRune]; exact .inr L1.out
            · rw [List.append_assoc, ← HT.out]; exact HAc.out
          case measure =>
            simp only [World.iterPos, L3.out, hitp.out]
            omega
        · rw [if_neg (fun q => h2 q.2)] at htd
          subst htd
          have d1 : decide ((65296 : Int) ≤ (r : Int)) = true := decide_eq_true h1
          have d2 : decide ((r : Int) ≤ 65305) = false := decide_eq_false h2
          go_wp2_with fail
          refine HW.out.mono ?_
          rintro e W1 ⟨rfl, hb1, b1, k1⟩
          have L1 := Lib.hid hb1
          have L2 := Lib.hid (hbw2.out.trans b1)
          have L3 := Lib.hid (k1.iter hit2.out (by omega))
          clear hb1 b1 k1 HW hnx hI2 hbw2
          go_wp2_with fail
          go_roundw
          case rel =>
            refine ⟨pos + k, f, acc ++ Lib.encodeRune (r : Int), ?_, L3.out, L2.out, ?_, by omega, by rw [List.length_append]; omega, hwl⟩
            · rw [Lib.byteCells_append, Lib.byteCells_encodeRune]; exact .inr L1.out
            · rw [List.append_assoc, ← HT.out]; exact HAc.out
          case measure =>
            simp only [World.iterPos, L3.out, hitp.out]
            omega
      · rw [if_neg (fun q => h1 q.1)] at htd
        subst htd
        have d1 : decide ((65296 : Int) ≤ (r : Int)) = false := decide_eq_false h1
        go_wp2_with fail
        refine HW.out.mono ?_
        rintro e W1 ⟨rfl, hb1, b1, k1⟩
        have L1 := Lib.hid hb1
        have L2 := Lib.hid (hbw2.out.trans b1)
        have L3 := Lib.hid (k1.iter hit2.out (by omega))
        clear hb1 b1 k1 HW hnx hI2 hbw2
        go_wp2_with fail
        go_roundw
        case rel =>
          refine ⟨pos + k, f, acc ++ Lib.encodeRune (r : Int), ?_, L3.out, L2.out, ?_, by omega, by rw [List.length_append]; omega, hwl⟩
          · rw [Lib.byteCells_append, Lib.byteCells_encodeRune]; exact .inr L1.out
          · rw [List.append_assoc, ← HT.out]; exact HAc.out
        case measure =>
          simp only [World.iterPos, L3.out, hitp.out]
          omega
    · have hnx : ∀ ty, (Instr.next (.pointer (some ⟨w.heap.size + 1, 0, none⟩)) true ty).run Tryz.prog wr = _ := fun ty => Lib.run_next_end_at wr (w.heap.size + 1) s pos ty hit hp
      have HS := Lib.hid (Tryz.Builder_String_any_k w.heap.size w.heap.size acc wr hI (by omega))
      rw [thinFrom_end s fuel pos hp, List.append_nil] at hacc
      have HB := Lib.hid hbw
      unfold numberL at HR
      rw [← hacc] at HR
      clear hI hbw hit hacc
      go_wp2_with fail
      refine HS.out.mono ?_
      rintro e w1 ⟨rfl, _, b1, _⟩
      have K1 := Lib.hid (Same.of_below (HB.out.trans b1))
      clear b1 HB HS hnx
      have HA := Lib.hid (atoi_any ⟨acc.toArray⟩ (by rw [bytes_size]; omega) w1 (HV.out.same K1.out))
      have e1 : (⟨acc.toArray⟩ : ByteArray).data.toList = acc := rfl
      rw [e1] at HA
      clear e1
      cases hat : Lib.atoiAll acc with
      | ok v =>
        rw [hat] at HA HR
        dsimp only at HA HR
        go_wp2_with fail
        refine HA.out.mono ?_
        rintro e w2 ⟨rfl, M2⟩
        have K2 := Lib.hid (K1.out.same M2)
        have HIt := Lib.hid (itoa_any v (Lib.atoiAll_bounds hat) w2 (HV.out.same K2.out).tab)
        clear M2 HA hat
        by_cases hq : Lib.itoa v = acc
        · rw [if_pos hq] at HR
          rw [hq] at HIt
          go_wp2_with fail
          refine HIt.out.mono ?_
          rintro e w3 ⟨rfl, M3⟩
          have K3 := Lib.hid (K2.out.same M3)
          clear M3 HIt
          go_wp2
          exact HR.out _ _ ⟨rfl, K3.out⟩
        · rw [if_neg hq] at HR
          have hq2 : (Lib.itoa v == acc) = false := by simp [hq]
          go_wp2_with fail
          refine HIt.out.mono ?_
          rintro e w3 ⟨rfl, M3⟩
          have K3 := Lib.hid (K2.out.same M3)
          clear M3 HIt
          generalize Lib.itoa v = iv at *
          go_wp2
          exact HR.out _ _ ⟨rfl, K3.out⟩
      | _ =>
        rw [hat] at HA HR
        dsimp only at HA HR
        go_wp2_with fail
        refine HA.out.mono ?_
        rintro e w2 ⟨⟨n, N, rfl⟩, M2⟩
        have K2 := Lib.hid (K1.out.same M2)
        clear M2 HA
        go_wp2
        exact HR.out _ _ ⟨rfl, K2.out⟩
end Go.Proofs.YtdengmlidckkeaaGreatDoor
