import Derived.Test.YtdengmlidckkeaaGreatDoorOrdA
import Derived.Lib.ConvBytes
set_option linter.unusedSimpArgs false
set_option linter.unusedVariables false
namespace Go.Proofs.YtdengmlidckkeaaGreatDoor
open Go Go.RowKit
set_option maxHeartbeats 2000000 in
set_option maxRecDepth 100000 in
theorem string65 (w0 : World) (b : Nat) (p : Value) (l : List UInt8) (w : World) (h : Buf w0 w b p (Lib.byteCells l)) (h0 : l ≠ []) :
    Calls Tryz.prog 62 #[bptr b] w fun e w' => e = .returned (.string ⟨l.toArray⟩) ∧ Mod (fun i => i = b) w0 w' := by
  refine opq fun R HR => ?_
  obtain ⟨v, hbk, hown, hbl, hM⟩ := h
  have hl0 : l.length ≠ 0 := by simpa using h0
  rw [Lib.byteCells_length] at hown
  rcases hown.2 with ⟨_, hz⟩ | ⟨g, cap, cur, fz, rfl, hbg, hg, hfz, hnc, hcm, hcs, htake⟩
  · exact absurd hz hl0
  have hc1 : w.drew.cell? ⟨b, 1, none⟩ = some (.slice (some ⟨g, 0, none⟩) l.length cap) := by
    have : w.drew.heap[b]? = some (.cells #[p, .slice (some ⟨g, 0, none⟩) l.length cap] 113 (0, 0)) := hbk
    simp [World.cell?, this]
  have hg' : w.drew.heap[g]? = some (.cells cur 5 fz) := hg
  have k1 : (Builtin.unsafeSliceData_ #[64] 144 #[.slice (some ⟨g, 0, none⟩) l.length cap]).run Tryz.prog w.drew = .ok (.pointer (some ⟨g, 0, none⟩)) w.drew :=
    Lib.run_unsafeSliceData_row _ _ _ _ _ _ (by omega)
  have k2 : (Builtin.unsafeString_ #[144, 3] 9 #[.pointer (some ⟨g, 0, none⟩), .int .i64 l.length]).run Tryz.prog w.drew = .ok (.string ⟨l.toArray⟩) (w.drew.freeze ⟨g, 0, none⟩ l.length) := by
    refine Lib.run_unsafeString_row w.drew 144 3 9 5 Tryz.underlying144 (by kernel_rfl) g cur.size (by simp [World.shape?, hg']) l h0 (by omega) (by unfold maxLen at hcm; omega) ?_
    intro j x hx
    have := hown.cells (g := g) rfl j (.int .u8 x.toNat) (by simp [Lib.byteCells, hx])
    exact this
  have hB := Lib.below_freeze (Below.drew (Below.refl w0.heap.size w)) (p := ⟨g, 0, none⟩) hbg l.length
  have KB := Lib.hid (show Mod (fun i => i = b) w0 (w.drew.freeze ⟨g, 0, none⟩ l.length) from ⟨hB.os.trans hM.os, hB.tape.trans hM.tape, hB.output.trans hM.output, Nat.le_trans hM.size hB.size, fun k hk hs => (hB.block k hk).trans (hM.block k hk hs)⟩)
  clear hbk hown htake hcs hg hg' hcm hnc hM hB hfz
  have mixed : Tryz.prog.follows .mixedOrders = true := by kernel_rfl
  go_enter Tryz.func62, Tryz.ntmps62
  go_wp2
  go_region_o
  all_goals (go_wp2; exact HR.out _ _ ⟨rfl, KB.out⟩)
/-- Bytes as they are told. -/
def runesL (l : List UInt8) : List UInt8 := if l = [] then [45] else l.flatMap fun b => Lib.encodeRune (10240 + (b.toNat : Int))
theorem rune_cells (b : UInt8) : Lib.runeCells (10240 + (b.toNat : Int)) = Lib.byteCells (Lib.encodeRune (10240 + (b.toNat : Int))) := by
  have hb : b.toNat < 256 := b.toNat_lt
  unfold Lib.runeCells Lib.encodeRune Lib.byteCells
  rw [Lib.encodeRuneZ_three (.inl ⟨by omega, by omega⟩)]
  simp only [List.map_cons, List.map_nil]
  have e : ∀ z : Int, 0 ≤ z → z < 256 → ((z.toNat.toUInt8).toNat : Int) = z := by
    intro z h0 h1
    rw [show z.toNat.toUInt8 = UInt8.ofNat z.toNat from rfl, UInt8.toNat_ofNat', Nat.mod_eq_of_lt (by omega), Int.toNat_of_nonneg h0]
  rw [e _ (by omega) (by omega), e _ (by omega) (by omega), e _ (by omega) (by omega)]
theorem runes_take (l : List UInt8) (j : Nat) (hj : j < l.length) : Lib.byteCells ((l.take (j + 1)).flatMap fun b => Lib.encodeRune (10240 + (b.toNat : Int))) = Lib.byteCells ((l.take j).flatMap fun b => Lib.encodeRune (10240 + (b.toNat : Int))) ++ Lib.runeCells (10240 + ((l.getD j 0).toNat : Int)) := by
  rw [List.take_succ_eq_append_getElem hj, List.flatMap_append, Lib.byteCells_append, rune_cells, List.getD_eq_getElem?_getD, List.getElem?_eq_getElem hj]; simp
theorem runes_len (l : List UInt8) : (l.flatMap fun b => Lib.encodeRune (10240 + (b.toNat : Int))).length = 3 * l.length := by
  induction l with
  | nil => rfl
  | cons b l ih =>
    have hb : b.toNat < 256 := b.toNat_lt
    rw [List.flatMap_cons, List.length_append, ih, List.length_cons]
    have : (Lib.encodeRune (10240 + (b.toNat : Int))).length = 3 := by
      unfold Lib.encodeRune; rw [Lib.encodeRuneZ_three (.inl ⟨by omega, by omega⟩)]; rfl
    omega
theorem Buf.mod {w0 w : World} {b : Nat} {p : Value} {bs : List Value} (h : Buf w0 w b p bs) : Mod (fun i => i = b) w0 w := let ⟨_, _, _, _, hM⟩ := h; hM
set_option maxRecDepth 10000 in
set_option maxHeartbeats 1000000 in
theorem runes_any (l : List UInt8) (hl : l.length ≤ 1000000) (w : World) : Calls Tryz.prog 39 #[.string ⟨l.toArray⟩] w fun e w' => e = .returned (.string ⟨(runesL l).toArray⟩) ∧ Same w w' := by
  refine opq fun R HR => ?_
  by_cases hq : l = []
  · subst hq
    go_enter Tryz.func39, Tryz.ntmps39
    go_wp2
    exact HR.out _ _ ⟨rfl, Mod.refl _ _⟩
  · have hq2 : (l == []) = false := by simp [hq]
    have hq3 : l.isEmpty = false := by simp [hq]
    unfold runesL at HR
    rw [if_neg hq] at HR
    have hsz := bytes_size l
    go_enter Tryz.func39, Tryz.ntmps39
    go_upto_region 4 with fail
    have S0 := Lib.hid ((Mod.refl (fun _ => False) w).alloc (.cells #[.pointer none, .slice none 0 0] 113))
    have hb0 := heap_new w (.cells #[.pointer none, .slice none 0 0] 113)
    have hw1 : (w.alloc (.cells #[.pointer none, .slice none 0 0] 113)).heap.size = w.heap.size + 1 := by simp
    generalize w.alloc _ = W at *
    have kc := Lib.run_convert_string_bytes (P := Tryz.prog) W 9 64 5 ⟨l.toArray⟩ Tryz.underlying9 Tryz.underlying64 Tryz.underlying5
    have S1 := Lib.hid (S0.out.same (bytes_same W ⟨l.toArray⟩))
    have hb1 : (Lib.bytesWorld W 5 ⟨l.toArray⟩).heap[w.heap.size]? = some (.cells #[.pointer none, .slice none 0 0] 113 (0, 0)) := (Lib.bytesWorld_at_old W 5 _ _ (by omega)).trans hb0
    have hcell := fun j hj => Lib.bytesWorld_cell W 5 ⟨l.toArray⟩ j hj
    have hw2 : (Lib.bytesWorld W 5 ⟨l.toArray⟩).heap.size = w.heap.size + 2 := by rw [Lib.bytesWorld_size]; omega
    rw [hw1] at kc hcell
    rw [hsz] at kc hcell
    clear S0 hb0
    generalize Lib.bytesWorld W 5 ⟨l.toArray⟩ = W0 at *
    generalize grownCap W _ 0 5 = cap at *
    generalize hZ : w.heap.size = Z at *
    have HC := Lib.hid hcell
    have BF := Lib.hid (show Buf W0 W0 Z (.pointer none) (Lib.byteCells []) from ⟨.slice none 0 0, hb1, World.ownsRowF_nil _ _ _ _, by omega, Mod.refl _ _⟩)
    clear hcell hb1
    go_wp2_with fail
    clear kc
    go_loopw [11, 5] (fun i _ wr => ∃ (j : Nat) (p : Value), j ≤ l.length ∧ i = .int .i64 j ∧ (p = .pointer none ∨ p = bptr Z) ∧ Buf W0 wr Z p (Lib.byteCells ((l.take j).flatMap fun b => Lib.encodeRune (10240 + (b.toNat : Int))))) (fun i _ _ => l.length - (intOf i).toNat)
    case atStart => exact ⟨0, _, by omega, rfl, .inl rfl, BF.out⟩
    case round =>
      obtain ⟨j, p, hj, rfl, hp, hbuf⟩ := hrel
      have K1 := Lib.hid hbuf
      have hM := hbuf.mod
      by_cases hlt : j < l.length
      · have hc := (hM.cell (b := Z + 1) (by omega) (by omega) j).trans (HC.out j hlt)
        have hlz : Z + 1 < wr.heap.size := by have := hM.size; omega
        have E := Lib.hid (runes_take l j hlt)
        have e1 : (⟨l.toArray⟩ : ByteArray).data.toList.getD j 0 = l.getD j 0 := rfl
        rw [e1] at hc
        have hy : (l.getD j 0).toNat < 256 := (l.getD j 0).toNat_lt
        have hln : ((l.take j).flatMap fun b => Lib.encodeRune (10240 + (b.toNat : Int))).length ≤ 3 * l.length := by rw [runes_len, List.length_take]; omega
        generalize (l.getD j 0).toNat = y at *
        generalize ((l.take j).flatMap fun b => Lib.encodeRune (10240 + (b.toNat : Int))) = A at *
        have hw32 : IntKind.i32.wrap (10240 + IntKind.i32.wrap (y : Int)) = 10240 + (y : Int) := by unfold IntKind.wrap; simp [IntKind.signed, IntKind.bits]; omega
        have HRn := Lib.hid (rune_any W0 Z p (Lib.byteCells A) (10240 + (y : Int)) (by omega) (by omega) wr K1.out hp (by rw [Lib.byteCells_length]; omega))
        clear hbuf hM hp K1 e1
        go_wp2_with fail
        refine HRn.out.mono ?_
        rintro e w2 ⟨n2, rfl, hbuf2⟩
        have K2 := Lib.hid hbuf2
        clear hbuf2 HRn hc
        go_wp2_with fail
        go_roundw
        case rel => exact ⟨j + 1, _, by omega, by go_num, .inr rfl, by rw [E.out]; exact K2.out⟩
        case measure => simp [intOf]; omega
      · obtain rfl : j = l.length := by omega
        rw [List.take_length] at K1 hbuf
        have hne : (l.flatMap fun b => Lib.encodeRune (10240 + (b.toNat : Int))) ≠ [] := by
          intro e; have := congrArg List.length e; rw [runes_len] at this; exact hq (List.length_eq_zero_iff.1 (by simp only [List.length_nil] at this; omega))
        have HSt := Lib.hid (string65 W0 Z p _ wr K1.out hne)
        clear hbuf hM K1 HC BF
        go_wp2_with fail
        refine HSt.out.mono ?_
        rintro e w2 ⟨rfl, hM2⟩
        have K3 := Lib.hid (S1.out.then_ hM2 (fun i hi q => by omega))
        clear hM2
        go_wp2
        exact HR.out _ _ ⟨rfl, K3.out⟩
end Go.Proofs.YtdengmlidckkeaaGreatDoor
