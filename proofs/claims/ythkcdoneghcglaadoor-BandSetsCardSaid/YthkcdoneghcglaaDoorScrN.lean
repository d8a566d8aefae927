import Derived.Test.YthkcdoneghcglaaDoorScrM
import Derived.Laws.BitsAllLaws
import Derived.Laws.BytesArg
set_option linter.unusedSimpArgs false
set_option linter.unusedVariables false
/- The eight digits of a sum: the program's and the document's. -/
namespace Go.Proofs.YthkcdoneghcglaaDoor
open Go Go.RowKit
theorem info5 : (Tryd.prog.info? 5).map (fun i => (i.zero, i.size, i.bytes)) = some (some (.int .u8 0), 1, 1) := by kernel_rfl
theorem info3 : (Tryd.prog.info? 3).map (fun i => (i.zero, i.size, i.bytes)) = some (some (.int .i64 0), 1, 8) := by kernel_rfl
theorem make8 (w : World) : ∃ w', (Instr.makeSlice 72 (.int .i64 8) (.int .i64 8)).run Tryd.prog w = .ok (.slice (some ⟨w.heap.size, 0, none⟩) 8 8) w' ∧ RowV w' w.heap.size 8 (fun _ => .int .u8 0) ∧ Same w w' := by
  obtain ⟨i0, hi, hz0, hz1, hz2⟩ := info_parts info5
  obtain ⟨w', hr, hown, hg⟩ := run_makeSlice_full (P := Tryd.prog) w w.heap.size 72 5 i0 (.int .u8 0) 1 Tryd.underlying72 hi hz0 hz1 .i64 .i64 8 (by omega) (by rw [hz2]; omega) (by unfold maxLen; omega) (Nat.le_refl _)
  refine ⟨w', hr, ?_, (Mod.refl _ _).grown hg (fun k hk => by cases hk)⟩
  rw [show (Value.int IntKind.u8 0).cells = #[Value.int IntKind.u8 0] from rfl, toList_madeCells_one] at hown
  obtain ⟨g, cap, hv, hg0, hgc, hrow⟩ := RowV.of_owns hown (by omega)
  injection hv with ha _ _
  injection ha with ha
  injection ha with ha _
  subst ha
  refine hrow.congr fun i hi => ?_
  rw [List.getD_eq_getElem?_getD, List.getElem?_replicate, if_pos (by omega)]; rfl
theorem make1024 (w : World) : ∃ w', (Instr.makeSlice 29 (.int .i64 1024) (.int .i64 1024)).run Tryd.prog w = .ok (.slice (some ⟨w.heap.size, 0, none⟩) 1024 1024) w' ∧ RowV w' w.heap.size 1024 (fun _ => .int .i64 0) ∧ Same w w' := by
  obtain ⟨i0, hi, hz0, hz1, hz2⟩ := info_parts info3
  obtain ⟨w', hr, hown, hg⟩ := run_makeSlice_full (P := Tryd.prog) w w.heap.size 29 3 i0 (.int .i64 0) 1 Tryd.underlying29 hi hz0 hz1 .i64 .i64 1024 (by omega) (by rw [hz2]; omega) (by unfold maxLen; omega) (Nat.le_refl _)
  refine ⟨w', hr, ?_, (Mod.refl _ _).grown hg (fun k hk => by cases hk)⟩
  rw [show (Value.int IntKind.i64 0).cells = #[Value.int IntKind.i64 0] from rfl, toList_madeCells_one] at hown
  obtain ⟨g, cap, hv, hg0, hgc, hrow⟩ := RowV.of_owns hown (by omega)
  injection hv with ha _ _
  injection ha with ha
  injection ha with ha _
  subst ha
  refine hrow.congr fun i hi => ?_
  rw [List.getD_eq_getElem?_getD, List.getElem?_replicate, if_pos (by omega)]; rfl
theorem and15 (v : Nat) (h : v < 4294967296) : bits .and .u32 (v : Int) 15 = ((v % 16 : Nat) : Int) := by
  have e := u32_and_nat v 15 h (by decide)
  rw [show v &&& 15 = v % 16 from Nat.and_two_pow_sub_one_eq_mod v 4] at e
  exact e
theorem hexTab (d : Nat) (h : d < ByteArray.size ⟨#[48, 49, 50, 51, 52, 53, 54, 55, 56, 57, 97, 98, 99, 100, 101, 102]⟩) : (⟨#[48, 49, 50, 51, 52, 53, 54, 55, 56, 57, 97, 98, 99, 100, 101, 102]⟩ : ByteArray)[d]'h = hexC d := by
  have hd : d < 16 := h
  exact (show ∀ d : Fin 16, (⟨#[48, 49, 50, 51, 52, 53, 54, 55, 56, 57, 97, 98, 99, 100, 101, 102]⟩ : ByteArray)[d.1]'d.2 = hexC d.1 by decide +kernel) ⟨d, hd⟩
theorem pow16 (h k : Nat) : h / 16 ^ k / 16 = h / 16 ^ (k + 1) := by rw [Nat.pow_succ, Nat.div_div_eq_div_mul]
def hxF (h k j : Nat) : Value := .int .u8 (if 8 ≤ j + k then ((hexC (h / 16 ^ (7 - j) % 16)).toNat : Int) else 0)
theorem hxF_step (h k m : Nat) (hm : m + k = 7) (w : World) (b : Nat) (hr : RowV w b 8 (hxF h k)) : RowV (w.setCell ⟨b, m, none⟩ (.int .u8 ((hexC (h / 16 ^ k % 16)).toNat : Int))) b 8 (hxF h (k + 1)) := by
  refine (hr.set m (by omega) _).congr fun j hj => ?_
  unfold upd hxF
  by_cases e : j = m
  · subst e; rw [if_pos rfl, if_pos (by omega), show 7 - j = k by omega]
  · rw [if_neg e]
    by_cases q : 8 ≤ j + k
    · rw [if_pos q, if_pos (by omega)]
    · rw [if_neg q, if_neg (by omega)]
theorem str8 (a b c d e f g i : UInt8) : strOfNums [(a.toNat : Int), (b.toNat : Int), (c.toNat : Int), (d.toNat : Int), (e.toNat : Int), (f.toNat : Int), (g.toNat : Int), (i.toNat : Int)] = ⟨[a, b, c, d, e, f, g, i].toArray⟩ := by
  unfold strOfNums
  simp
theorem conv8 (h b : Nat) (w : World) (hr : RowV w b 8 (hxF h 8)) : (convert 72 9 (.slice (some ⟨b, 0, none⟩) 8 8)).run Tryd.prog w = .ok (strV (hexL h)) w := by
  unfold strV hexL
  rw [← str8]
  refine run_convert_bytes_arg (P := Tryd.prog) _ 72 5 Tryd.underlying72 Tryd.underlying5 b 0 8 8 _ rfl ?_ 9 Tryd.underlying9
  intro i hi
  have key := hr.cell i (by omega)
  rw [Nat.zero_add, key]
  unfold hxF
  rw [if_pos (by omega)]
  match i, hi with
  | 0, _ => rfl
  | 1, _ => rfl
  | 2, _ => rfl
  | 3, _ => rfl
  | 4, _ => rfl
  | 5, _ => rfl
  | 6, _ => rfl
  | 7, _ => simp
set_option maxRecDepth 10000 in
set_option maxHeartbeats 1000000 in
theorem hex_any (h : Nat) (hh : h < 4294967296) (w : World) : Calls Tryd.prog 37 #[.int .u32 (h : Int)] w fun e w' => e = .returned (strV (hexL h)) ∧ Same w w' := by
  refine opq fun R HR => ?_
  obtain ⟨w0, hmk, hrow0, hM0⟩ := make8 w
  have K0 := Lib.hid hrow0
  have KM := Lib.hid hM0
  clear hrow0 hM0
  go_enter Tryd.func37, Tryd.ntmps37
  go_wp2_with fail
  go_loopw [8, 0] (fun i v wr => ∃ k : Nat, k ≤ 8 ∧ i = .int .i64 k ∧ v = .int .u32 ((h / 16 ^ k : Nat) : Int) ∧ RowV wr w.heap.size 8 (hxF h k) ∧ Same w wr) (fun i _ _ => 8 - (intOf i).toNat)
  case atStart => exact ⟨0, by omega, rfl, by simp, K0.out.congr (fun j hj => by unfold hxF; rw [if_neg (by omega)]), KM.out⟩
  case round =>
    obtain ⟨k, hk, rfl, rfl, hrow, hM⟩ := hrel
    have K1 := Lib.hid hrow
    have K2 := Lib.hid hM
    clear hM
    by_cases hlt : k < 8
    · have hs : 7 - k < 8 := by omega
      have hc := hrow.cell (7 - k) (by omega)
      have hf := hrow.free
      have hw7 : IntKind.i64.wrap (7 - (k : Int)) = ((7 - k : Nat) : Int) := by rw [show 7 - (k : Int) = ((7 - k : Nat) : Int) by omega]; exact IntWalk.i64_in _ (by omega)
      obtain ⟨m, hm7⟩ : ∃ m, 7 - k = m := ⟨_, rfl⟩
      rw [hm7] at hs hc hw7
      have HS := Lib.hid (hxF_step h k m (by omega) wr w.heap.size K1.out)
      have HP := Lib.hid (pow16 h k)
      clear hm7 hrow
      obtain ⟨v, hv⟩ : ∃ v : Nat, h / 16 ^ k = v := ⟨_, rfl⟩
      have hvl : v < 4294967296 := by rw [← hv]; exact Nat.lt_of_le_of_lt (Nat.div_le_self _ _) hh
      rw [hv] at HS HP ⊢
      clear hv
      have hand := and15 v hvl
      go_wp2_with fail
      go_roundw
      case rel => exact ⟨k + 1, by omega, by go_num, by rw [← HP.out]; rfl, by rw [hexTab]; exact HS.out, K2.out.setCell (p := ⟨w.heap.size, m, none⟩) (fun q => by dsimp only at q; omega) _⟩
      case measure => simp [intOf]; omega
    · obtain rfl : k = 8 := by omega
      have kc := conv8 h w.heap.size wr K1.out
      go_wp2
      exact HR.out _ _ ⟨rfl, K2.out⟩
end Go.Proofs.YthkcdoneghcglaaDoor
