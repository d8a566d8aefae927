import Derived.Test.YtjkndfenniongaaGreatDoorPackG
import Derived.Laws.BitsLemmas
set_option linter.unusedSimpArgs false
set_option linter.unusedVariables false
namespace Go.Proofs.YtjkndfenniongaaGreatDoor
open Go Go.RowKit
abbrev rptr (g : Nat) : Value := .pointer (some ⟨g, 0, none⟩)
abbrev rcells (l : List UInt8) (sh : Bool) : Array Value := #[.string ⟨l.toArray⟩, .bool sh]
theorem of_any (l : List UInt8) (w : World) : Calls Tryz.prog 76 #[.string ⟨l.toArray⟩] w fun e w' => e = .returned (rptr w.heap.size) ∧ Blk w' w.heap.size (rcells l false) ∧ Same w w' := by
  refine opq fun R HR => ?_
  go_enter Tryz.func76, Tryz.ntmps76
  go_wp2
  exact HR.out _ _ ⟨rfl, Blk.new w _ _, (Mod.refl _ _).alloc _⟩
/-- What Take hands back; what is left; whether there were too few. -/
def takeL (l : List UInt8) (sh : Bool) (n : Nat) : List UInt8 × List UInt8 × Bool := if n ≤ l.length then (l.take n, l.drop n, sh) else ([], [], true)
set_option maxRecDepth 10000 in
theorem take_any (R : Nat) (l : List UInt8) (sh : Bool) (n : Nat) (w : World) (h : Blk w R (rcells l sh)) (hl : l.length ≤ 100000000000000) (hn : n ≤ 100000000000000) :
    Calls Tryz.prog 91 #[rptr R, .int .i64 n] w fun e w' => e = .returned (.string ⟨(takeL l sh n).1.toArray⟩) ∧ Blk w' R (rcells (takeL l sh n).2.1 (takeL l sh n).2.2) ∧ Mod (fun i => i = R) w w' := by
  refine opq fun Rr HR => ?_
  have hll := bytes_size l
  have hc := h.cell
  have hf := h.free
  have H := Lib.hid h
  have hn0 : ¬ (n : Int) < 0 := by omega
  by_cases hq : n ≤ l.length
  · have et : (⟨l.toArray⟩ : ByteArray).extract 0 n = ⟨(l.take n).toArray⟩ := take_bytes _ _
    have ed : (⟨l.toArray⟩ : ByteArray).extract n l.length = ⟨(l.drop n).toArray⟩ := by rw [← hll]; exact drop_bytes _ _
    have ET := Lib.hid et
    have ED := Lib.hid ed
    unfold takeL at HR
    rw [if_pos hq] at HR
    clear et ed h
    go_enter Tryz.func91, Tryz.ntmps91
    go_wp2_with fail
    rw [ET.out, ED.out]
    exact HR.out _ _ ⟨rfl, H.out.set 0 _, (Mod.refl (fun i => i = R) w).setCell (p := ⟨R, 0, none⟩) (fun _ => rfl) _⟩
  · unfold takeL at HR
    rw [if_neg hq] at HR
    clear h
    go_enter Tryz.func91, Tryz.ntmps91
    go_wp2_with fail
    exact HR.out _ _ ⟨rfl, (H.out.set 0 _).set 1 _, ((Mod.refl (fun i => i = R) w).setCell (p := ⟨R, 0, none⟩) (fun _ => rfl) _).setCell (p := ⟨R, 1, none⟩) (fun _ => rfl) _⟩
theorem takeL_len (l : List UInt8) (sh : Bool) (n : Nat) : (takeL l sh n).1.length ≤ n ∧ (takeL l sh n).2.1.length ≤ l.length := by
  unfold takeL; split <;> simp <;> omega
theorem wraps_u64 (n : Int) (h0 : 0 ≤ n) (h1 : n < 2 ^ 64) : IntKind.u64.wrap n = n := by unfold IntKind.wrap; simp [IntKind.signed, IntKind.bits]; omega
theorem or_comm64 (x y : Int) (hx : 0 ≤ x ∧ x < 2 ^ 64) (hy : 0 ≤ y ∧ y < 2 ^ 64) : bits .or .u64 x y = bits .or .u64 y x := by
  obtain ⟨a, rfl⟩ := Int.eq_ofNat_of_zero_le hx.1
  obtain ⟨b, rfl⟩ := Int.eq_ofNat_of_zero_le hy.1
  have ha : a < 2 ^ 64 := by exact_mod_cast hx.2
  have hb : b < 2 ^ 64 := by exact_mod_cast hy.2
  rw [(bits_nat .u64 64 (by decide) wraps_u64 a b ha hb).2, (bits_nat .u64 64 (by decide) wraps_u64 b a hb ha).2, Nat.or_comm]
theorem or_at (i : Nat) (x y z p : Int) (hp : p = 2 ^ i) (hx : 0 ≤ x ∧ x < p) (hz : z = y * p) (hy : 0 ≤ z ∧ z < 2 ^ 64) (hp2 : p ≤ 2 ^ 64) : bits .or .u64 x z = x + z := by
  rw [or_comm64 x z ⟨hx.1, by omega⟩ hy, bits_join .u64 64 (by decide) wraps_u64 i z x hy.1 (by rw [← hp, hz, Int.mul_emod_left]) hy.2 hx.1 (by rw [← hp]; exact hx.2) (by omega), Int.add_comm]
theorem or_next (x y : Int) (j : Nat) (hj : j < 8) (hx : 0 ≤ x ∧ x < 256 ^ j) (hy : 0 ≤ y ∧ y < 256) : bits .or .u64 x (IntKind.u64.wrap (IntKind.u64.wrap y * 2 ^ (8 * j))) = x + y * 256 ^ j := by
  have hw : IntKind.u64.wrap y = y := wraps_u64 y hy.1 (by omega)
  rw [hw]
  have h : j = 0 ∨ j = 1 ∨ j = 2 ∨ j = 3 ∨ j = 4 ∨ j = 5 ∨ j = 6 ∨ j = 7 := by omega
  rcases h with rfl | rfl | rfl | rfl | rfl | rfl | rfl | rfl
  all_goals
    rw [wraps_u64 _ (by simp; omega) (by simp; omega)]
  · exact or_at 0 x y _ 1 (by decide) (by simpa using hx) (by simp) (by simp; omega) (by decide)
  · exact or_at 8 x y _ (256 ^ 1) (by decide) hx rfl (by simp; omega) (by decide)
  · exact or_at 16 x y _ (256 ^ 2) (by decide) hx rfl (by simp; omega) (by decide)
  · exact or_at 24 x y _ (256 ^ 3) (by decide) hx rfl (by simp; omega) (by decide)
  · exact or_at 32 x y _ (256 ^ 4) (by decide) hx rfl (by simp; omega) (by decide)
  · exact or_at 40 x y _ (256 ^ 5) (by decide) hx rfl (by simp; omega) (by decide)
  · exact or_at 48 x y _ (256 ^ 6) (by decide) hx rfl (by simp; omega) (by decide)
  · exact or_at 56 x y _ (256 ^ 7) (by decide) hx rfl (by simp; omega) (by decide)
theorem leV_take (t : List UInt8) (j : Nat) (hj : j < t.length) (h8 : j < 8) : bits .or .u64 (leV (t.take j)) (IntKind.u64.wrap (IntKind.u64.wrap ((t.getD j 0).toNat : Int) * 2 ^ (8 * j))) = leV (t.take (j + 1)) := by
  have hb := leV_bd (t.take j)
  have hl : (t.take j).length = j := by rw [List.length_take]; omega
  rw [hl] at hb
  rw [or_next _ _ j h8 hb ⟨by omega, by have := (t.getD j 0).toNat_lt; omega⟩, List.take_succ_eq_append_getElem hj, leV_snoc, hl, List.getD_eq_getElem?_getD, List.getElem?_eq_getElem hj]; rfl
set_option maxRecDepth 10000 in
theorem get_any (R : Nat) (l : List UInt8) (sh : Bool) (sz : Int) (k : Nat) (hk : min (max sz 1) 8 = (k : Int)) (w : World) (h : Blk w R (rcells l sh)) (hl : l.length ≤ 100000000000000) :
    Calls Tryz.prog 77 #[rptr R, .int .i64 sz] w fun e w' => e = .returned (.int .u64 (leV (takeL l sh k).1)) ∧ Blk w' R (rcells (takeL l sh k).2.1 (takeL l sh k).2.2) ∧ Mod (fun i => i = R) w w' := by
  refine opq fun Rr HR => ?_
  have hk8 : k ≤ 8 := by omega
  have HK := Lib.hid hk
  have HT := Lib.hid (take_any R l sh k w h hl (by omega))
  have htl := (takeL_len l sh k).1
  generalize takeL l sh k = T at *
  obtain ⟨t, l2, sh2⟩ := T
  dsimp only at *
  clear h hk
  go_enter Tryz.func77, Tryz.ntmps77
  go_wp2_with fail
  refine (width_any _ _).mono ?_
  rintro e w1 ⟨rfl, rfl⟩
  rw [HK.out]
  go_wp2_with fail
  refine HT.out.mono ?_
  rintro e w2 ⟨rfl, hB, hM⟩
  have kc := Lib.run_convert_string_bytes (P := Tryz.prog) w2 9 40 5 ⟨t.toArray⟩ Tryz.underlying9 Tryz.underlying40 Tryz.underlying5
  have S1 := bytes_same w2 ⟨t.toArray⟩
  have K1 := Lib.hid (hB.mod S1 (fun q => q))
  have K2 := Lib.hid (hM.same S1)
  have hcell := fun j hj => Lib.bytesWorld_cell w2 5 ⟨t.toArray⟩ j hj
  have hlt : w2.heap.size < (Lib.bytesWorld w2 5 ⟨t.toArray⟩).heap.size := by rw [Lib.bytesWorld_size]; omega
  clear S1 hB hM HT
  have hsz := bytes_size t
  generalize Lib.bytesWorld w2 5 ⟨t.toArray⟩ = W at *
  generalize w2.heap.size = Z at *
  generalize grownCap w2 _ 0 5 = cap at *
  rw [hsz] at kc hcell
  have HC := Lib.hid hcell
  clear hcell
  go_wp2_with fail
  clear kc
  go_loopw [14, 5, 6, 7] (fun i v _ _ wr => ∃ j : Nat, j ≤ t.length ∧ i = .int .i64 j ∧ v = .int .u64 (leV (t.take j)) ∧ wr = W) (fun i _ _ _ _ => t.length - (intOf i).toNat)
  case atStart => exact ⟨0, by omega, rfl, rfl, rfl⟩
  case round =>
    obtain ⟨j, hj, rfl, rfl, rfl⟩ := hrel
    by_cases hlt2 : j < t.length
    · have hc := HC.out j hlt2
      have E := Lib.hid (leV_take t j hlt2 (by omega))
      have e1 : (⟨t.toArray⟩ : ByteArray).data.toList.getD j 0 = t.getD j 0 := rfl
      rw [e1] at hc
      generalize leV (t.take j) = x at *
      generalize (t.getD j 0).toNat = y at *
      clear e1
      go_wp2_with fail
      go_roundw
      case rel => exact ⟨j + 1, by omega, by go_num, by rw [← E.out], by first | rfl | trivial⟩
      case measure => simp [intOf]; omega
    · obtain rfl : j = t.length := by omega
      rw [List.take_length]
      go_wp2
      exact HR.out _ _ ⟨rfl, K1.out, K2.out⟩
end Go.Proofs.YtjkndfenniongaaGreatDoor
