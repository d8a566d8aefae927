import Derived.Test.YtdengmlidckkeaaGreatDoorOrdL
set_option linter.unusedSimpArgs false
set_option linter.unusedVariables false
namespace Go.Proofs.YtdengmlidckkeaaGreatDoor
open Go Go.RowKit
theorem valid_any (l : List UInt8) (hl : l.length ≤ 1000000) (w : World) (h : Lib.Utf8Tabs 0 1 w) : Calls Tryz.prog 64 #[.string ⟨l.toArray⟩] w fun e w' => e = .returned (.bool (Lib.validD l)) ∧ Same w w' := by
  have := Any.utf8_ValidString Tryz.lays196 ⟨l.toArray⟩ w (by rw [bytes_size]; omega) h
  refine Calls.mono this ?_
  rintro e w' ⟨rfl, hb⟩
  exact ⟨rfl, Same.of_below hb⟩
theorem Mod.iterAt {S : Nat → Prop} {w w' : World} (h : Mod S w w') {k : Nat} (hk : S k) (s : ByteArray) (pos : Nat) : Mod S w (w'.iterAt k s pos) :=
  ⟨h.os, h.tape, h.output, by rw [Lib.iterAt_size]; exact h.size, fun i hi hs => (Lib.iterAt_other w' k i s pos (fun e => hs (e ▸ hk))).trans (h.block i hi hs)⟩
theorem owns_iterAt {w : World} {base size n : Nat} {e : TypeId} {v : Value} {xs : List Value} (h : w.ownsRow base e size v n xs) {k : Nat} (hk : k < base) (s : ByteArray) (pos : Nat) : (w.iterAt k s pos).ownsRow base e size v n xs := by
  obtain ⟨hl, h0 | ⟨g, cap, cur, hv, hb, hh, r⟩⟩ := h
  · exact ⟨hl, .inl h0⟩
  · exact ⟨hl, .inr ⟨g, cap, cur, hv, hb, (Lib.iterAt_other w k g s pos (by omega)).trans hh, r⟩⟩
theorem iter_append {wr w1 : World} {base size n k : Nat} {e : TypeId} {v : Value} {xs : List Value} {o : Obj} {ob : Obj} (h : wr.ownsRow base e size v n xs) (hg : (wr.alloc o).grownBy w1 v.ownBlock) (hk : wr.heap[k]? = some ob) (hkb : k < base) : w1.heap[k]? = some ob := by
  have M : Mod (fun i => base ≤ i) wr w1 := ((Mod.refl _ wr).alloc o).grown hg (fun k hk _ => owns_ge h k hk)
  have hlt : k < wr.heap.size := (Array.getElem?_eq_some_iff.1 hk).1
  exact (M.block k hlt (by omega)).trans hk
set_option maxRecDepth 10000 in
set_option maxHeartbeats 2000000 in
theorem bytes_any (l : List UInt8) (hl : l.length ≤ 100000) (w : World) (hv : Lib.Utf8Tabs 0 1 w) : Calls Tryz.prog 33 #[.string ⟨l.toArray⟩] w fun e w' => e = .returned (.tuple #[.string ⟨(refBytes l).1.toArray⟩, .bool (refBytes l).2]) ∧ Same w w' := by
  refine opq fun R HR => ?_
  by_cases h45 : l = [45]
  · subst h45
    clear hv
    go_enter Tryz.func33, Tryz.ntmps33
    go_wp2
    exact HR.out _ _ ⟨rfl, Mod.refl _ _⟩
  by_cases h0 : l = []
  · subst h0
    clear hv
    go_enter Tryz.func33, Tryz.ntmps33
    go_wp2
    exact HR.out _ _ ⟨rfl, Mod.refl _ _⟩
  have b1 : (l == [45]) = false := by simp [h45]
  have b2 : (l == []) = false := by simp [h0]
  have b3 : l.isEmpty = false := by simp [h0]
  have hsz := bytes_size l
  have HVl := Lib.hid (valid_any l (by omega) w hv)
  have hpos : 0 < l.length := List.length_pos_iff.2 h0
  clear hv
  cases hvd : Lib.validD l with
  | false =>
    rw [hvd] at HVl
    rw [ref_invalid l h45 hvd] at HR
    go_enter Tryz.func33, Tryz.ntmps33
    go_wp2_with fail
    refine HVl.out.mono ?_
    rintro e w1 ⟨rfl, M1⟩
    have K1 := Lib.hid M1
    clear M1 HVl
    go_wp2
    exact HR.out _ _ ⟨rfl, K1.out⟩
  | true =>
    rw [hvd] at HVl
    clear hvd
    obtain ⟨i0, hi, hz0, hz1, hz2⟩ := info_parts info5
    have I0 := Lib.hid hi
    have Z0 := Lib.hid hz0
    have Z1 := Lib.hid hz1
    have Z2 := Lib.hid hz2
    clear hi hz0 hz1 hz2
    have H45 := Lib.hid h45
    go_enter Tryz.func33, Tryz.ntmps33
    go_wp2_with fail
    refine HVl.out.mono ?_
    rintro e w1 ⟨rfl, M1⟩
    have K1 := Lib.hid M1
    clear M1 HVl
    go_wp2_with fail
    clear b1 b2 b3
    have hit0 := World.iter_heap w1 ⟨l.toArray⟩ 0
    have hws : (w1.iter ⟨l.toArray⟩ 0).heap.size = w1.heap.size + 1 := by simp [World.iter]
    have K2' := Lib.hid (show Same w (w1.iter ⟨l.toArray⟩ 0) from K1.out.alloc (.stringIter ⟨l.toArray⟩ 0))
    have hwz := K1.out.size
    have HWS := Lib.hid (show w1.heap.size < (w1.iter ⟨l.toArray⟩ 0).heap.size by omega)
    clear K1
    generalize w1.iter ⟨l.toArray⟩ 0 = W1 at *
    generalize hZ : w1.heap.size = Z at *
    go_loopw [4, 6] (fun v _ wr => ∃ j : Nat, 3 * j ≤ l.length ∧ (∀ i, i < j → tri l i) ∧ wr.ownsRow W1.heap.size 5 1 v j (Lib.byteCells (outK l j)) ∧ wr.heap[Z]? = some (.stringIter ⟨l.toArray⟩ (3 * j)) ∧ Mod (fun i => i = Z) W1 wr) (fun _ _ wr => l.length - wr.iterPos Z)
    case atStart => exact ⟨0, by omega, fun i hi => by omega, World.ownsRow_nil _ _ _ _, hit0, Mod.refl _ _⟩
    case round =>
      obtain ⟨j, hj, hall, hown, hit, hM⟩ := hrel
      have HA := Lib.hid hall
      have L1 := Lib.hid hown
      have L2 := Lib.hid hM
      have L3 := Lib.hid hit
      have hszr := hM.size
      clear hall hown hM
      by_cases hlt : 3 * j < l.length
      · have hp : 3 * j < (⟨l.toArray⟩ : ByteArray).size := by rw [hsz]; exact hlt
        have hnx : ∀ ty, (Instr.next (.pointer (some ⟨Z, 0, none⟩)) true ty).run Tryz.prog wr = _ := fun ty => Lib.run_next_any_at wr Z ⟨l.toArray⟩ (3 * j) ty hit hp
        have htd := tri_dec l j
        have hdl := decode_le ⟨l.toArray⟩ (3 * j)
        have N1 := Lib.hid (owns_iterAt L1.out (by omega : Z < W1.heap.size) ⟨l.toArray⟩ (3 * j + (Utf8.decode ⟨l.toArray⟩ (3 * j)).2))
        have N2 := Lib.hid (L2.out.iterAt rfl ⟨l.toArray⟩ (3 * j + (Utf8.decode ⟨l.toArray⟩ (3 * j)).2))
        have N3 := Lib.hid (Lib.iterAt_heap wr Z ⟨l.toArray⟩ (3 * j) (3 * j + (Utf8.decode ⟨l.toArray⟩ (3 * j)).2) hit)
        have hszi := Lib.iterAt_size wr Z ⟨l.toArray⟩ (3 * j + (Utf8.decode ⟨l.toArray⟩ (3 * j)).2)
        by_cases ht : tri l j
        · obtain ⟨hr, hk⟩ := tri_val l j ht
          have hb := triB_bd (l.getD (3 * j + 1) 0) (l.getD (3 * j + 2) 0)
          have E := Lib.hid (outK_succ l j)
          have hl3 := ht.1
          have HT := Lib.hid ht
          clear htd ht hit
          generalize triB (l.getD (3 * j + 1) 0) (l.getD (3 * j + 2) 0) = t at *
          rw [hk] at hnx N1 N2 N3 hszi
          generalize (Utf8.decode ⟨l.toArray⟩ (3 * j)).1 = r at *
          clear hk
          have d1 : decide ((r : Int) < 10240) = false := decide_eq_false (by omega)
          have d2 : decide ((10496 : Int) ≤ (r : Int)) = false := decide_eq_false (by omega)
          have hw1 : IntKind.i32.wrap ((r : Int) - 10240) = t := by unfold IntKind.wrap; simp [IntKind.signed, IntKind.bits]; omega
          have hw2 : IntKind.u8.wrap t = t := by unfold IntKind.wrap; simp [IntKind.signed, IntKind.bits]; omega
          obtain ⟨WI, hWI⟩ : ∃ WI, wr.iterAt Z ⟨l.toArray⟩ (3 * j + 3) = WI := ⟨_, rfl⟩
          rw [hWI] at hnx N1 N2 N3 hszi
          clear hr hdl hit0 hws hwz hWI hb
          have HSZ := Lib.hid hszi
          clear hszi
          go_wp2_with (at_builtin; refine wpList_append_own _ rfl (.tmp 27) (.tmp 31) 64 rfl W1.heap.size 5 i0 (.int .u8 0) 1 1 Tryz.underlying64 I0.out Z0.out Z1.out Z2.out rfl (by decide) _ _ _ rfl (N1.out.alloc _) ⟨WI.heap.size, 0, none⟩ 1 1 [.int .u8 t] rfl rfl (one_new _ _ _) (fun u hu => (by simp at hu; subst hu; rfl)) (by unfold maxLen; omega) (by omega) (by have := HSZ.out; simp only [World.size_alloc]; omega) ?_; intro v' w3 hown' hgrow _)
          have P1 := Lib.hid (same_append N2.out N1.out hgrow)
          have P2 := Lib.hid hown'
          have P3 := Lib.hid (iter_append N1.out hgrow N3.out HWS.out)
          clear hown' hgrow
          go_roundw
          case rel => exact ⟨j + 1, by omega, fun i hi => by
            rcases Nat.lt_or_ge i j with q | q
            · exact HA.out i q
            · obtain rfl : i = j := by omega
              exact HT.out, by rw [E.out]; exact P2.out, P3.out, P1.out⟩
          case measure => simp only [World.iterPos, P3.out, L3.out]; omega
        · rw [ref_bad l H45.out j hlt ht] at HR
          have hbad : ¬ (10240 ≤ (Utf8.decode ⟨l.toArray⟩ (3 * j)).1 ∧ (Utf8.decode ⟨l.toArray⟩ (3 * j)).1 < 10496) := fun q => ht (htd.1 q)
          clear htd ht hit N1 N3 hszi
          generalize (Utf8.decode ⟨l.toArray⟩ (3 * j)).2 = k at *
          generalize (Utf8.decode ⟨l.toArray⟩ (3 * j)).1 = r at *
          generalize hWI : wr.iterAt Z ⟨l.toArray⟩ (3 * j + k) = WI at *
          have KF := Lib.hid (K2'.out.then_ N2.out (fun i hi q => by omega))
          by_cases h1 : (r : Int) < 10240
          · have d1 : decide ((r : Int) < 10240) = true := decide_eq_true h1
            go_wp2_with fail
            exact HR.out _ _ ⟨rfl, KF.out⟩
          · have d1 : decide ((r : Int) < 10240) = false := decide_eq_false h1
            have d2 : decide ((10496 : Int) ≤ (r : Int)) = true := decide_eq_true (by omega)
            go_wp2_with fail
            exact HR.out _ _ ⟨rfl, KF.out⟩
      · have hp : ¬ 3 * j < (⟨l.toArray⟩ : ByteArray).size := by rw [hsz]; exact hlt
        have hnx : ∀ ty, (Instr.next (.pointer (some ⟨Z, 0, none⟩)) true ty).run Tryz.prog wr = _ := fun ty => Lib.run_next_end_at wr Z ⟨l.toArray⟩ (3 * j) ty hit hp
        have hlj : l.length = 3 * j := by omega
        have hj0 : 0 < j := by omega
        rw [ref_good l j hlj hj0 HA.out] at HR
        obtain ⟨g, cap, hgv, hg0, hgc, hrow⟩ := RowV.of_owns L1.out hj0
        subst hgv
        have hol := outK_len l j
        have KC := Lib.hid (run_convert_bytes_arg (P := Tryz.prog) wr 64 5 Tryz.underlying64 Tryz.underlying5 g 0 j cap ((outK l j).map fun b => (b.toNat : Int)) (by rw [List.length_map, hol]) (fun i hi => by
          rw [Nat.zero_add]
          refine ((hrow.cell i (by omega)).trans ?_)
          have hi2 : i < (outK l j).length := by omega
          rw [List.getD_eq_getElem?_getD, List.getD_eq_getElem?_getD]
          unfold Lib.byteCells
          rw [List.getElem?_map, List.getElem?_map, List.getElem?_eq_getElem hi2]; rfl) 9 Tryz.underlying9)
        rw [strOfNums_bytes] at KC
        have kc := KC.out
        have KF := Lib.hid (K2'.out.then_ L2.out (fun i hi q => by omega))
        clear hrow hol hit L1 L2 L3
        generalize outK l j = O at *
        go_wp2_with fail
        exact HR.out _ _ ⟨rfl, KF.out⟩
end Go.Proofs.YtdengmlidckkeaaGreatDoor
