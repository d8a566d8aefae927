import Derived.Test.YtlcepoagpocadaaGreatDoorPackT
import Derived.Test.YtlcepoagpocadaaGreatDoorShelfW
import Derived.Test.YtlcepoagpocadaaGreatDoorShelfC
import Derived.Lib.ConvBytes
import Derived.Test.YtlcepoagpocadaaGreatDoorShelfX
import Derived.Lib.RuneBytes
import Derived.Lib.Builder
import Derived.Lib.QuoteLoop
import Derived.Lib.AtoiAllCases
set_option linter.unusedSimpArgs false
set_option linter.unusedVariables false
namespace Go.Proofs.YtlcepoagpocadaaGreatDoor
open Go Go.RowKit
/-- A builder at b whose buffer lies behind the world w0. -/
def Buf (w0 w : World) (b : Nat) (p : Value) (bs : List Value) : Prop := ∃ v, w.heap[b]? = some (.cells #[p, v] 105 (0, 0)) ∧ w.ownsRowF w0.heap.size 5 1 v bs.length bs ∧ b < w0.heap.size ∧ Mod (fun i => i = b) w0 w
abbrev bptr (b : Nat) : Value := .pointer (some ⟨b, 0, none⟩)
theorem ownsF_mod {w w' : World} {S : Nat → Prop} {base size n : Nat} {e : TypeId} {v : Value} {xs : List Value} (h : w.ownsRowF base e size v n xs) (M : Mod S w w') (hS : ∀ i, S i → i < base) : w'.ownsRowF base e size v n xs := by
  obtain ⟨hl, h0 | ⟨g, cap, cur, fz, hv, hb, hh, r⟩⟩ := h
  · exact ⟨hl, .inl h0⟩
  · have hlt : g < w.heap.size := by
      rcases Nat.lt_or_ge g w.heap.size with q | q
      · exact q
      · rw [Array.getElem?_eq_none q] at hh; cases hh
    exact ⟨hl, .inr ⟨g, cap, cur, fz, hv, hb, (M.block g hlt (fun q => by have := hS g q; omega)).trans hh, r⟩⟩
theorem ownsF_slice {w : World} {base size n : Nat} {e : TypeId} {v : Value} {xs : List Value} (h : w.ownsRowF base e size v n xs) : ∃ a c, v = .slice a n c := by
  rcases h.2 with ⟨rfl, rfl⟩ | ⟨g, cap, cur, fz, rfl, _⟩
  · exact ⟨_, _, rfl⟩
  · exact ⟨_, _, rfl⟩
theorem heap_set0 (w : World) (b : Nat) (p q v : Value) (h : w.heap[b]? = some (.cells #[p, v] 105 (0, 0))) : (w.setCell ⟨b, 0, none⟩ q).heap[b]? = some (.cells #[q, v] 105 (0, 0)) := by
  simp [World.setCell, Array.getElem?_modify, h]
theorem heap_set1 (w : World) (b : Nat) (p q v : Value) (h : w.heap[b]? = some (.cells #[p, v] 105 (0, 0))) : (w.setCell ⟨b, 1, none⟩ q).heap[b]? = some (.cells #[p, q] 105 (0, 0)) := by
  simp [World.setCell, Array.getElem?_modify, h]
theorem lt_of_heap {w : World} {b : Nat} {o : Obj} (h : w.heap[b]? = some o) : b < w.heap.size := by
  rcases Nat.lt_or_ge b w.heap.size with q | q
  · exact q
  · rw [Array.getElem?_eq_none q] at h; cases h
theorem check65 (b : Nat) (p v : Value) (w : World) (hb : w.heap[b]? = some (.cells #[p, v] 105 (0, 0))) (hp : p = .pointer none ∨ p = bptr b) :
    Calls Tryz.prog 82 #[bptr b] w fun e w' => e = .returned (.tuple #[]) ∧ w'.heap[b]? = some (.cells #[bptr b, v] 105 (0, 0)) ∧ Mod (fun i => i = b) w w' := by
  rcases hp with rfl | rfl
  · refine (Any.Builder_copyCheck_fresh { Tryz.lays168 with } Tryz.Builder_Extra_B.toX72 b w (by simp [World.cell?, hb]) (by simp [World.shape?, hb]; rfl) (by simp [World.frozen?, hb])).mono ?_
    rintro e w' ⟨rfl, rfl⟩
    exact ⟨rfl, heap_set0 w b _ _ v hb, (Mod.refl (fun i => i = b) w).setCell (p := ⟨b, 0, none⟩) (fun _ => rfl) _⟩
  · refine (Any.Builder_copyCheck_used { Tryz.lays168 with } Tryz.Builder_Extra_B.toX72 b w (by simp [World.cell?, hb])).mono ?_
    rintro e w' ⟨rfl, rfl⟩
    exact ⟨rfl, hb, Mod.refl _ _⟩
set_option maxRecDepth 10000 in
theorem rune_any (w0 : World) (b : Nat) (p : Value) (bs : List Value) (r : Int) (hr0 : -2147483648 ≤ r) (hr1 : r ≤ 2147483647) (w : World) (h : Buf w0 w b p bs) (hp : p = .pointer none ∨ p = bptr b) (hlen : bs.length + 4 ≤ 140737488355328) :
    Calls Tryz.prog 114 #[bptr b, .int .i32 r] w fun e w' => ∃ n, e = .returned (.tuple #[.int .i64 n, .nilIface]) ∧ Buf w0 w' b (bptr b) (bs ++ Lib.runeCells r) := by
  refine opq fun R HR => ?_
  obtain ⟨v, hb, hown, hbl, hM⟩ := h
  have HC := Lib.hid (check65 b p v w hb hp)
  have hsz := hM.size
  have KO := Lib.hid hown
  have KM := Lib.hid hM
  clear hb hp hown hM
  go_enter Tryz.func114, Tryz.ntmps114
  go_wp2_with fail
  refine HC.out.mono ?_
  rintro e w1 ⟨rfl, hb1, hM1⟩
  have K1 := Lib.hid (ownsF_mod KO.out hM1 (fun i q => by omega))
  have K2 := Lib.hid (KM.out.trans hM1)
  have hc1 : w1.cell? ⟨b, 1, none⟩ = some v := by simp [World.cell?, hb1]
  have hc0 : w1.cell? ⟨b, 0, none⟩ = some (bptr b) := by simp [World.cell?, hb1]
  have hlt := lt_of_heap hb1
  have KB := Lib.hid hb1
  have hsz1 : w0.heap.size ≤ w1.heap.size := K2.out.size
  clear hM1 hb1 HC KO KM
  obtain ⟨va, vc, rfl⟩ := ownsF_slice K1.out
  have HA := Lib.hid (Tryz.utf8_AppendRune_row w0.heap.size _ bs.length bs r hr0 hr1 w1 K1.out hlen hsz1)
  go_wp2_with fail
  refine HA.out.mono ?_
  rintro e w2 ⟨v', rfl, hown', o, hg⟩
  obtain ⟨va', vc', rfl⟩ := ownsF_slice hown'
  have hne : some b ≠ (Value.slice va bs.length vc).ownBlock := fun e => by have := (K1.out.lt b e.symm).1; omega
  have hb2 : w2.heap[b]? = some (.cells #[bptr b, .slice va bs.length vc] 105 (0, 0)) := by
    rw [hg.block b (by simp only [World.size_alloc]; omega) hne, Below.heap_alloc w1 o b hlt]; exact KB.out
  have d1 : w2.cell? ⟨b, 1, none⟩ = some (.slice va bs.length vc) := by simp [World.cell?, hb2]
  have f1 : w2.frozen? ⟨b, 1, none⟩ = false := by simp [World.frozen?, hb2]
  have L1 := Lib.hid hb2
  have L2 := Lib.hid hown'
  have L3 := Lib.hid (show Mod (fun i => i = b) w0 w2 from (K2.out.alloc o).grown hg (fun k hk hl => by have := (K1.out.lt k hk).1; omega))
  clear hb2 hown' hg HA K1 K2 KB hc1 hc0 hne
  have L4 := Lib.hid (show Buf w0 (w2.setCell ⟨b, 1, none⟩ (.slice va' (bs.length + (Lib.runeCells r).length) vc')) b (bptr b) (bs ++ Lib.runeCells r) from ⟨_, heap_set1 w2 b _ _ _ L1.out, by
    rw [List.length_append]
    exact ownsF_mod L2.out ((Mod.refl (fun i => i = b) w2).setCell (p := ⟨b, 1, none⟩) (fun _ => rfl) _) (fun i q => by omega), hbl, L3.out.setCell (p := ⟨b, 1, none⟩) (fun _ => rfl) _⟩)
  have hi1 : IntKind.i64.wrap (((bs.length + (Lib.runeCells r).length : Nat) : Int) - (bs.length : Int)) = ((Lib.runeCells r).length : Int) := by
    have : (Lib.runeCells r).length ≤ 4 := by
      unfold Lib.runeCells Lib.encodeRuneZ; rw [List.length_map]; split <;> (try split) <;> (try split) <;> (try split) <;> simp
    rw [IntWalk.i64_in _ (by omega)]; omega
  generalize (Lib.runeCells r).length = nr at *
  go_wp2_with fail
  exact HR.out _ _ ⟨_, rfl, L4.out⟩
end Go.Proofs.YtlcepoagpocadaaGreatDoor
namespace Go.Proofs.YtlcepoagpocadaaGreatDoor
open Go Go.RowKit
theorem bytes_same (w : World) (s : ByteArray) : Same w (Lib.bytesWorld w 5 s) := ⟨rfl, rfl, rfl, by rw [Lib.bytesWorld_size]; omega, fun k hk _ => Lib.bytesWorld_at_old w 5 s k hk⟩
set_option maxHeartbeats 2000000 in
set_option maxRecDepth 100000 in
theorem string65 (w0 : World) (b : Nat) (p : Value) (l : List UInt8) (w : World) (h : Buf w0 w b p (Lib.byteCells l)) (h0 : l ≠ []) :
    Calls Tryz.prog 40 #[bptr b] w fun e w' => e = .returned (.string ⟨l.toArray⟩) ∧ Mod (fun i => i = b) w0 w' := by
  refine opq fun R HR => ?_
  obtain ⟨v, hbk, hown, hbl, hM⟩ := h
  have hl0 : l.length ≠ 0 := by simpa using h0
  rw [Lib.byteCells_length] at hown
  rcases hown.2 with ⟨_, hz⟩ | ⟨g, cap, cur, fz, rfl, hbg, hg, hfz, hnc, hcm, hcs, htake⟩
  · exact absurd hz hl0
  have hc1 : w.drew.cell? ⟨b, 1, none⟩ = some (.slice (some ⟨g, 0, none⟩) l.length cap) := by
    have : w.drew.heap[b]? = some (.cells #[p, .slice (some ⟨g, 0, none⟩) l.length cap] 105 (0, 0)) := hbk
    simp [World.cell?, this]
  have hg' : w.drew.heap[g]? = some (.cells cur 5 fz) := hg
  have k1 : (Builtin.unsafeSliceData_ #[22] 177 #[.slice (some ⟨g, 0, none⟩) l.length cap]).run Tryz.prog w.drew = .ok (.pointer (some ⟨g, 0, none⟩)) w.drew :=
    Lib.run_unsafeSliceData_row _ _ _ _ _ _ (by omega)
  have k2 : (Builtin.unsafeString_ #[177, 3] 9 #[.pointer (some ⟨g, 0, none⟩), .int .i64 l.length]).run Tryz.prog w.drew = .ok (.string ⟨l.toArray⟩) (w.drew.freeze ⟨g, 0, none⟩ l.length) := by
    refine Lib.run_unsafeString_row w.drew 177 3 9 5 Tryz.underlying177 (by kernel_rfl) g cur.size (by simp [World.shape?, hg']) l h0 (by omega) (by unfold maxLen at hcm; omega) ?_
    intro j x hx
    have := hown.cells (g := g) rfl j (.int .u8 x.toNat) (by simp [Lib.byteCells, hx])
    exact this
  have hB := Lib.below_freeze (Below.drew (Below.refl w0.heap.size w)) (p := ⟨g, 0, none⟩) hbg l.length
  have KB := Lib.hid (show Mod (fun i => i = b) w0 (w.drew.freeze ⟨g, 0, none⟩ l.length) from ⟨hB.os.trans hM.os, hB.tape.trans hM.tape, hB.output.trans hM.output, Nat.le_trans hM.size hB.size, fun k hk hs => (hB.block k hk).trans (hM.block k hk hs)⟩)
  clear hbk hown htake hcs hg hg' hcm hnc hM hB hfz
  have mixed : Tryz.prog.follows .mixedOrders = true := by kernel_rfl
  go_enter Tryz.func40, Tryz.ntmps40
  go_wp2
  go_region_o
  all_goals (go_wp2; exact HR.out _ _ ⟨rfl, KB.out⟩)
/-- Bytes as they are told. -/
def runesL (l : List UInt8) : List UInt8 := if l = [] then [45] else l.flatMap fun b => Lib.encodeRune (10240 + (b.toNat : Int))
theorem rune_cells (b : UInt8) : Lib.runeCells (10240 + (b.toNat : Int)) = Lib.byteCells (Lib.encodeRune (10240 + (b.toNat : Int))) := by
  have hb : b.toNat < 256 := b.toNat_lt
  unfold Lib.runeCells Lib.encodeRune Lib.byteCells
  rw [Lib.encodeRuneZ_three (.inl ⟨by omega, by omega⟩)]
  simp only [List.map_cons, List.map_nil]
  have e : ∀ z : Int, 0 ≤ z → z < 256 → ((z.toNat.toUInt8).toNat : Int) = z := by
    intro z h0 h1
    rw [show z.toNat.toUInt8 = UInt8.ofNat z.toNat from rfl, UInt8.toNat_ofNat', Nat.mod_eq_of_lt (by omega), Int.toNat_of_nonneg h0]
  rw [e _ (by omega) (by omega), e _ (by omega) (by omega), e _ (by omega) (by omega)]
theorem runes_take (l : List UInt8) (j : Nat) (hj : j < l.length) : Lib.byteCells ((l.take (j + 1)).flatMap fun b => Lib.encodeRune (10240 + (b.toNat : Int))) = Lib.byteCells ((l.take j).flatMap fun b => Lib.encodeRune (10240 + (b.toNat : Int))) ++ Lib.runeCells (10240 + ((l.getD j 0).toNat : Int)) := by
  rw [List.take_succ_eq_append_getElem hj, List.flatMap_append, Lib.byteCells_append, rune_cells, List.getD_eq_getElem?_getD, List.getElem?_eq_getElem hj]; simp
theorem runes_len (l : List UInt8) : (l.flatMap fun b => Lib.encodeRune (10240 + (b.toNat : Int))).length = 3 * l.length := by
  induction l with
  | nil => rfl
  | cons b l ih =>
    have hb : b.toNat < 256 := b.toNat_lt
    rw [List.flatMap_cons, List.length_append, ih, List.length_cons]
    have : (Lib.encodeRune (10240 + (b.toNat : Int))).length = 3 := by
      unfold Lib.encodeRune; rw [Lib.encodeRuneZ_three (.inl ⟨by omega, by omega⟩)]; rfl
    omega
theorem Buf.mod {w0 w : World} {b : Nat} {p : Value} {bs : List Value} (h : Buf w0 w b p bs) : Mod (fun i => i = b) w0 w := let ⟨_, _, _, _, hM⟩ := h; hM
set_option maxRecDepth 10000 in
set_option maxHeartbeats 1000000 in
theorem runes_any (l : List UInt8) (hl : l.length ≤ 5000000) (w : World) : Calls Tryz.prog 86 #[.string ⟨l.toArray⟩] w fun e w' => e = .returned (.string ⟨(runesL l).toArray⟩) ∧ Same w w' := by
  refine opq fun R HR => ?_
  by_cases hq : l = []
  · subst hq
    go_enter Tryz.func86, Tryz.ntmps86
    go_wp2
    exact HR.out _ _ ⟨rfl, Mod.refl _ _⟩
  · have hq2 : (l == []) = false := by simp [hq]
    have hq3 : l.isEmpty = false := by simp [hq]
    unfold runesL at HR
    rw [if_neg hq] at HR
    have hsz := bytes_size l
    go_enter Tryz.func86, Tryz.ntmps86
    go_upto_region 4 with fail
    have S0 := Lib.hid ((Mod.refl (fun _ => False) w).alloc (.cells #[.pointer none, .slice none 0 0] 105))
    have hb0 := heap_new w (.cells #[.pointer none, .slice none 0 0] 105)
    have hw1 : (w.alloc (.cells #[.pointer none, .slice none 0 0] 105)).heap.size = w.heap.size + 1 := by simp
    generalize w.alloc _ = W at *
    have kc := Lib.run_convert_string_bytes (P := Tryz.prog) W 9 22 5 ⟨l.toArray⟩ Tryz.underlying9 Tryz.underlying22 Tryz.underlying5
    have S1 := Lib.hid (S0.out.same (bytes_same W ⟨l.toArray⟩))
    have hb1 : (Lib.bytesWorld W 5 ⟨l.toArray⟩).heap[w.heap.size]? = some (.cells #[.pointer none, .slice none 0 0] 105 (0, 0)) := (Lib.bytesWorld_at_old W 5 _ _ (by omega)).trans hb0
    have hcell := fun j hj => Lib.bytesWorld_cell W 5 ⟨l.toArray⟩ j hj
    have hw2 : (Lib.bytesWorld W 5 ⟨l.toArray⟩).heap.size = w.heap.size + 2 := by rw [Lib.bytesWorld_size]; omega
    rw [hw1] at kc hcell
    rw [hsz] at kc hcell
    clear S0 hb0
    generalize Lib.bytesWorld W 5 ⟨l.toArray⟩ = W0 at *
    generalize grownCap W _ 0 5 = cap at *
    generalize hZ : w.heap.size = Z at *
    have HC := Lib.hid hcell
    have BF := Lib.hid (show Buf W0 W0 Z (.pointer none) (Lib.byteCells []) from ⟨.slice none 0 0, hb1, World.ownsRowF_nil _ _ _ _, by omega, Mod.refl _ _⟩)
    clear hcell hb1
    go_wp2_with fail
    clear kc
    go_loopw [11, 5] (fun i _ wr => ∃ (j : Nat) (p : Value), j ≤ l.length ∧ i = .int .i64 j ∧ (p = .pointer none ∨ p = bptr Z) ∧ Buf W0 wr Z p (Lib.byteCells ((l.take j).flatMap fun b => Lib.encodeRune (10240 + (b.toNat : Int))))) (fun i _ _ => l.length - (intOf i).toNat)
    case atStart => exact ⟨0, _, by omega, rfl, .inl rfl, BF.out⟩
    case round =>
      obtain ⟨j, p, hj, rfl, hp, hbuf⟩ := hrel
      have K1 := Lib.hid hbuf
      have hM := hbuf.mod
      by_cases hlt : j < l.length
      · have hc := (hM.cell (b := Z + 1) (by omega) (by omega) j).trans (HC.out j hlt)
        have hlz : Z + 1 < wr.heap.size := by have := hM.size; omega
        have E := Lib.hid (runes_take l j hlt)
        have e1 : (⟨l.toArray⟩ : ByteArray).data.toList.getD j 0 = l.getD j 0 := rfl
        rw [e1] at hc
        have hy : (l.getD j 0).toNat < 256 := (l.getD j 0).toNat_lt
        have hln : ((l.take j).flatMap fun b => Lib.encodeRune (10240 + (b.toNat : Int))).length ≤ 3 * l.length := by rw [runes_len, List.length_take]; omega
        generalize (l.getD j 0).toNat = y at *
        generalize ((l.take j).flatMap fun b => Lib.encodeRune (10240 + (b.toNat : Int))) = A at *
        have hw32 : IntKind.i32.wrap (10240 + IntKind.i32.wrap (y : Int)) = 10240 + (y : Int) := by unfold IntKind.wrap; simp [IntKind.signed, IntKind.bits]; omega
        have HRn := Lib.hid (rune_any W0 Z p (Lib.byteCells A) (10240 + (y : Int)) (by omega) (by omega) wr K1.out hp (by rw [Lib.byteCells_length]; omega))
        clear hbuf hM hp K1 e1
        go_wp2_with fail
        refine HRn.out.mono ?_
        rintro e w2 ⟨n2, rfl, hbuf2⟩
        have K2 := Lib.hid hbuf2
        clear hbuf2 HRn hc
        go_wp2_with fail
        go_roundw
        case rel => exact ⟨j + 1, _, by omega, by go_num, .inr rfl, by rw [E.out]; exact K2.out⟩
        case measure => simp [intOf]; omega
      · obtain rfl : j = l.length := by omega
        rw [List.take_length] at K1 hbuf
        have hne : (l.flatMap fun b => Lib.encodeRune (10240 + (b.toNat : Int))) ≠ [] := by
          intro e; have := congrArg List.length e; rw [runes_len] at this; exact hq (List.length_eq_zero_iff.1 (by simp only [List.length_nil] at this; omega))
        have HSt := Lib.hid (string65 W0 Z p _ wr K1.out hne)
        clear hbuf hM K1 HC BF
        go_wp2_with fail
        refine HSt.out.mono ?_
        rintro e w2 ⟨rfl, hM2⟩
        have K3 := Lib.hid (S1.out.then_ hM2 (fun i hi q => by omega))
        clear hM2
        go_wp2
        exact HR.out _ _ ⟨rfl, K3.out⟩
end Go.Proofs.YtlcepoagpocadaaGreatDoor
namespace Go.Proofs.YtlcepoagpocadaaGreatDoor
open Go Go.RowKit
/-- The library's two errors and its table lie there. -/
structure VarsOK (w : World) : Prop where
  tab : TabOK w
  syn : ∃ tp p, w.var? Tryz.prog "strconv.ErrSyntax" = some #[.iface tp p]
  rng : ∃ tp p, w.var? Tryz.prog "strconv.ErrRange" = some #[.iface tp p]
theorem synG : Tryz.prog.globalNamed "strconv.ErrSyntax" = some 4 := by kernel_rfl
theorem rngG : Tryz.prog.globalNamed "strconv.ErrRange" = some 5 := by kernel_rfl
theorem var_same {w w' : World} {name : String} {g : Nat} {cs : Array Value} (hG : Tryz.prog.globalNamed name = some g) (h : w.var? Tryz.prog name = some cs) (e : w'.heap[g]? = w.heap[g]?) : w'.var? Tryz.prog name = some cs := by
  unfold World.var? at h ⊢
  rw [hG] at h ⊢
  simp only [Option.bind_some] at h ⊢
  rw [e]; exact h
theorem VarsOK.block {w w' : World} (h : VarsOK w) (e : ∀ g, g < 6 → w'.heap[g]? = w.heap[g]?) : VarsOK w' :=
  ⟨tab_block h.tab (e 1 (by omega)), let ⟨tp, p, q⟩ := h.syn; ⟨tp, p, var_same synG q (e 4 (by omega))⟩, let ⟨tp, p, q⟩ := h.rng; ⟨tp, p, var_same rngG q (e 5 (by omega))⟩⟩
theorem VarsOK.lt {w : World} (h : VarsOK w) : 5 < w.heap.size := by
  obtain ⟨tp, p, q⟩ := h.rng
  unfold World.var? at q
  rw [rngG] at q
  rcases Nat.lt_or_ge 5 w.heap.size with r | r
  · exact r
  · simp [Array.getElem?_eq_none r] at q
theorem VarsOK.same {w w' : World} (h : VarsOK w) (M : Same w w') : VarsOK w' := h.block fun g hg => M.block g (by have := h.lt; omega) (fun q => q)
/-- What Atoi hands back. -/
theorem atoi_any (s : ByteArray) (hs : s.size ≤ 5000000) (w : World) (h : VarsOK w) :
    Calls Tryz.prog 144 #[.string s] w fun e w' => (match Lib.atoiAll s.data.toList with
      | .ok v => e = .returned (.tuple #[.int .i64 v, .nilIface])
      | _ => ∃ n N, e = .returned (.tuple #[.int .i64 n, .iface 279 (.pointer (some ⟨N, 0, none⟩))])) ∧ Same w w' := by
  cases e : Lib.atoiAll s.data.toList with
  | ok v =>
    refine (Any.strconv_Atoi_ok Tryz.laysC172 s (by omega) v e w).mono ?_
    rintro x w' ⟨rfl, rfl | ⟨t, rfl⟩⟩
    · exact ⟨rfl, Mod.refl _ _⟩
    · exact ⟨rfl, bytes_same w t⟩
  | range =>
    obtain ⟨tp, p, q⟩ := h.rng
    refine (Any.strconv_Atoi_range_var Tryz.laysC172 s (by omega) e tp p w q).mono ?_
    rintro x w' ⟨N, rfl, _, _, hb⟩
    exact ⟨⟨_, N, rfl⟩, Same.of_below hb⟩
  | _ =>
    obtain ⟨tp, p, q⟩ := h.syn
    refine (Any.strconv_Atoi_syntax_var Tryz.laysC172 s (by omega) e tp p w q).mono ?_
    rintro x w' ⟨N, rfl, _, _, hb⟩
    exact ⟨⟨_, N, rfl⟩, Same.of_below hb⟩
/-- A rune, wide digits as digits. -/
def thin (r : Int) : Int := if 65296 ≤ r ∧ r ≤ 65305 then r - 65296 + 48 else r
def thinFrom (s : ByteArray) : Nat → Nat → List UInt8
  | 0, _ => []
  | fuel + 1, pos => if pos < s.size then Lib.encodeRune (thin (Utf8.decode s pos).1) ++ thinFrom s fuel (pos + (Utf8.decode s pos).2) else []
/-- A text, wide digits as digits. -/
def thinL (s : ByteArray) : List UInt8 := thinFrom s s.size 0
/-- The number of runes. -/
def numberL (s : ByteArray) : Int × Bool :=
  match Lib.atoiAll (thinL s) with
  | .ok n => if Lib.itoa n = thinL s then (n, true) else (0, false)
  | _ => (0, false)
theorem width_pos (s : ByteArray) (pos : Nat) (h : pos < s.size) : 1 ≤ (Utf8.decode s pos).2 := by
  by_cases ha : (s[pos]'h).toNat < 128
  · rw [decode_ascii s pos h ha]
    exact Nat.le_refl _
  · exact (decode_high s pos h (by omega)).2
theorem thinFrom_end (s : ByteArray) (fuel pos : Nat) (h : ¬ pos < s.size) : thinFrom s fuel pos = [] := by
  cases fuel with
  | zero => rfl
  | succ f => simp [thinFrom, h]
end Go.Proofs.YtlcepoagpocadaaGreatDoor
namespace Go.Proofs.YtlcepoagpocadaaGreatDoor
open Go Go.RowKit
theorem thin_bd (s : ByteArray) (pos : Nat) (h : pos < s.size) : -2147483648 ≤ thin (Utf8.decode s pos).1 ∧ thin (Utf8.decode s pos).1 ≤ 2147483647 := by
  have := decode_le s pos
  unfold thin; split <;> omega
theorem width_le (s : ByteArray) (pos : Nat) (h : pos < s.size) : pos + (Utf8.decode s pos).2 ≤ s.size := by
  rw [Lib.decode_at]
  have := Lib.decodeN_width_le (s.size - pos) (s.get! pos).toNat (s.get! (pos + 1)).toNat (s.get! (pos + 2)).toNat (s.get! (pos + 3)).toNat (by omega)
  omega
set_option maxHeartbeats 4000000 in
set_option maxRecDepth 100000 in
theorem number_any (s : ByteArray) (hs : s.size ≤ 1100000) (w : World) (hv : VarsOK w) :
    Calls Tryz.prog 122 #[.string s] w fun e w' => e = .returned (.tuple #[.int .i64 (numberL s).1, .bool (numberL s).2]) ∧ Same w w' := by
  refine opq fun R HR => ?_
  have HV := Lib.hid hv
  clear hv
  go_enter Tryz.func122, Tryz.ntmps122
  go_wp2_with fail
  go_loopw [6] (fun _ wr => ∃ (pos fuel : Nat) (acc : List UInt8), Lib.IsBuilderF 105 5 w.heap.size w.heap.size (Lib.byteCells acc) wr ∧ wr.heap[w.heap.size + 1]? = some (.stringIter s pos) ∧ Below w.heap.size w wr ∧ acc ++ thinFrom s fuel pos = thinL s ∧ s.size ≤ pos + fuel ∧ acc.length ≤ 4 * pos ∧ pos ≤ s.size) (fun _ wr => s.size - wr.iterPos (w.heap.size + 1))
  case atStart =>
    refine ⟨0, s.size, [], (Lib.IsBuilderF.of (Lib.fresh_isBuilder 105 5 w)).alloc _, ?_, ((Below.refl _ w).alloc (Nat.le_refl _) _).alloc (by simp) _, rfl, by omega, by simp, by omega⟩
    have := World.iter_heap (w.alloc (.cells #[.pointer none, .slice none 0 0] 105)) s 0
    simpa using this
  case round =>
    obtain ⟨pos, fuel, acc, hI, hit, hbw, hacc, hfu, hal, hps⟩ := hrel
    have hsz : w.heap.size + 1 < wr.heap.size := (Array.getElem?_eq_some_iff.1 hit).1
    by_cases hp : pos < s.size
    · have hnx : ∀ ty, (Instr.next (.pointer (some ⟨w.heap.size + 1, 0, none⟩)) true ty).run Tryz.prog wr = _ := fun ty => Lib.run_next_any_at wr (w.heap.size + 1) s pos ty hit hp
      have hwd := width_pos s pos hp
      have hwl := width_le s pos hp
      have hd1 := decode_le s pos
      have hI2 := Lib.hid (hI.iterAt hit (pos + (Utf8.decode s pos).2))
      have hit2 := Lib.hid (Lib.iterAt_heap wr (w.heap.size + 1) s pos (pos + (Utf8.decode s pos).2) hit)
      have hbw2 := Lib.hid (Lib.below_iterAt hbw (k := w.heap.size + 1) (by omega) s (pos + (Utf8.decode s pos).2))
      have hsz2 : w.heap.size ≤ (wr.iterAt (w.heap.size + 1) s (pos + (Utf8.decode s pos).2)).heap.size := by rw [Lib.iterAt_size]; omega
      obtain ⟨f, rfl⟩ : ∃ f, fuel = f + 1 := ⟨fuel - 1, by omega⟩
      have hbd := thin_bd s pos hp
      have HT := Lib.hid (show thinFrom s (f + 1) pos = Lib.encodeRune (thin (Utf8.decode s pos).1) ++ thinFrom s f (pos + (Utf8.decode s pos).2) by simp only [thinFrom, if_pos hp])
      have hl4 := Lib.runeCells_le (thin (Utf8.decode s pos).1)
      rw [Lib.runeCells_length] at hl4
      have HW := Lib.hid (Tryz.Builder_WriteRune_k w.heap.size w.heap.size (Lib.byteCells acc) (thin (Utf8.decode s pos).1) hbd.1 hbd.2 _ hI2.out (by rw [Lib.byteCells_length]; omega) hsz2)
      have HAc := Lib.hid hacc
      have hitq := hit
      clear hI hbw hacc hit
      have hitp := Lib.hid hitq
      clear hitq
      have htd : thin (Utf8.decode s pos).1 = if 65296 ≤ ((Utf8.decode s pos).1 : Int) ∧ ((Utf8.decode s pos).1 : Int) ≤ 65305 then ((Utf8.decode s pos).1 : Int) - 65296 + 48 else ((Utf8.decode s pos).1 : Int) := rfl
      generalize thin (Utf8.decode s pos).1 = t at *
      generalize (Utf8.decode s pos).2 = k at *
      generalize (Utf8.decode s pos).1 = r at *
      by_cases h1 : 65296 ≤ (r : Int)
      · by_cases h2 : (r : Int) ≤ 65305
        · rw [if_pos ⟨h1, h2⟩] at htd
          subst htd
          have d1 : decide ((65296 : Int) ≤ (r : Int)) = true := decide_eq_true h1
          have d2 : decide ((r : Int) ≤ 65305) = true := decide_eq_true h2
          have hw1 : IntKind.i32.wrap ((r : Int) - 65296) = (r : Int) - 65296 := by unfold IntKind.wrap; simp [IntKind.signed, IntKind.bits]; omega
          have hw2 : IntKind.i32.wrap ((r : Int) - 65296 + 48) = (r : Int) - 65296 + 48 := by unfold IntKind.wrap; simp [IntKind.signed, IntKind.bits]; omega
          go_wp2_with fail
          refine HW.out.mono ?_
          rintro e W1 ⟨rfl, hb1, b1, k1⟩
          have L1 := Lib.hid hb1
          have L2 := Lib.hid (hbw2.out.trans b1)
          have L3 := Lib.hid (k1.iter hit2.out (by omega))
          clear hb1 b1 k1 HW hnx hI2 hbw2
          go_wp2_with fail
          go_roundw
          case rel =>
            refine ⟨pos + k, f, acc ++ Lib.encodeRune ((r : Int) - 65296 + 48), ?_, L3.out, L2.out, ?_, by omega, by rw [List.length_append]; omega, hwl⟩
            · rw [Lib.byteCells_append, Lib.byteCells_encodeRune]; exact .inr L1.out
            · rw [List.append_assoc, ← HT.out]; exact HAc.out
          case measure =>
            simp only [World.iterPos, L3.out, hitp.out]
            omega
        · rw [if_neg (fun q => h2 q.2)] at htd
          subst htd
          have d1 : decide ((65296 : Int) ≤ (r : Int)) = true := decide_eq_true h1
          have d2 : decide ((r : Int) ≤ 65305) = false := decide_eq_false h2
          go_wp2_with fail
          refine HW.out.mono ?_
          rintro e W1 ⟨rfl, hb1, b1, k1⟩
          have L1 := Lib.hid hb1
          have L2 := Lib.hid (hbw2.out.trans b1)
          have L3 := Lib.hid (k1.iter hit2.out (by omega))
          clear hb1 b1 k1 HW hnx hI2 hbw2
          go_wp2_with fail
          go_roundw
          case rel =>
            refine ⟨pos + k, f, acc ++ Lib.encodeRune (r : Int), ?_, L3.out, L2.out, ?_, by omega, by rw [List.length_append]; omega, hwl⟩
            · rw [Lib.byteCells_append, Lib.byteCells_encodeRune]; exact .inr L1.out
            · rw [List.append_assoc, ← HT.out]; exact HAc.out
          case measure =>
            simp only [World.iterPos, L3.out, hitp.out]
            omega
      · rw [if_neg (fun q => h1 q.1)] at htd
        subst htd
        have d1 : decide ((65296 : Int) ≤ (r : Int)) = false := decide_eq_false h1
        go_wp2_with fail
        refine HW.out.mono ?_
        rintro e W1 ⟨rfl, hb1, b1, k1⟩
        have L1 := Lib.hid hb1
        have L2 := Lib.hid (hbw2.out.trans b1)
        have L3 := Lib.hid (k1.iter hit2.out (by omega))
        clear hb1 b1 k1 HW hnx hI2 hbw2
        go_wp2_with fail
        go_roundw
        case rel =>
          refine ⟨pos + k, f, acc ++ Lib.encodeRune (r : Int), ?_, L3.out, L2.out, ?_, by omega, by rw [List.length_append]; omega, hwl⟩
          · rw [Lib.byteCells_append, Lib.byteCells_encodeRune]; exact .inr L1.out
          · rw [List.append_assoc, ← HT.out]; exact HAc.out
        case measure =>
          simp only [World.iterPos, L3.out, hitp.out]
          omega
    · have hnx : ∀ ty, (Instr.next (.pointer (some ⟨w.heap.size + 1, 0, none⟩)) true ty).run Tryz.prog wr = _ := fun ty => Lib.run_next_end_at wr (w.heap.size + 1) s pos ty hit hp
      have HS := Lib.hid (Tryz.Builder_String_any_k w.heap.size w.heap.size acc wr hI (by omega))
      rw [thinFrom_end s fuel pos hp, List.append_nil] at hacc
      have HB := Lib.hid hbw
      unfold numberL at HR
      rw [← hacc] at HR
      clear hI hbw hit hacc
      go_wp2_with fail
      refine HS.out.mono ?_
      rintro e w1 ⟨rfl, _, b1, _⟩
      have K1 := Lib.hid (Same.of_below (HB.out.trans b1))
      clear b1 HB HS hnx
      have HA := Lib.hid (atoi_any ⟨acc.toArray⟩ (by rw [bytes_size]; omega) w1 (HV.out.same K1.out))
      have e1 : (⟨acc.toArray⟩ : ByteArray).data.toList = acc := rfl
      rw [e1] at HA
      clear e1
      cases hat : Lib.atoiAll acc with
      | ok v =>
        rw [hat] at HA HR
        dsimp only at HA HR
        go_wp2_with fail
        refine HA.out.mono ?_
        rintro e w2 ⟨rfl, M2⟩
        have K2 := Lib.hid (K1.out.same M2)
        have HIt := Lib.hid (itoa_any v (Lib.atoiAll_bounds hat) w2 (HV.out.same K2.out).tab)
        clear M2 HA hat
        by_cases hq : Lib.itoa v = acc
        · rw [if_pos hq] at HR
          rw [hq] at HIt
          go_wp2_with fail
          refine HIt.out.mono ?_
          rintro e w3 ⟨rfl, M3⟩
          have K3 := Lib.hid (K2.out.same M3)
          clear M3 HIt
          go_wp2
          exact HR.out _ _ ⟨rfl, K3.out⟩
        · rw [if_neg hq] at HR
          have hq2 : (Lib.itoa v == acc) = false := by simp [hq]
          go_wp2_with fail
          refine HIt.out.mono ?_
          rintro e w3 ⟨rfl, M3⟩
          have K3 := Lib.hid (K2.out.same M3)
          clear M3 HIt
          generalize Lib.itoa v = iv at *
          go_wp2
          exact HR.out _ _ ⟨rfl, K3.out⟩
      | _ =>
        rw [hat] at HA HR
        dsimp only at HA HR
        go_wp2_with fail
        refine HA.out.mono ?_
        rintro e w2 ⟨⟨n, N, rfl⟩, M2⟩
        have K2 := Lib.hid (K1.out.same M2)
        clear M2 HA
        go_wp2
        exact HR.out _ _ ⟨rfl, K2.out⟩
end Go.Proofs.YtlcepoagpocadaaGreatDoor
