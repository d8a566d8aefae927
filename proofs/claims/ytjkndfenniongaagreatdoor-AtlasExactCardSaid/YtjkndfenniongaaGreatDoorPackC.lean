import Derived.Test.YtjkndfenniongaaGreatDoorPackB
import Derived.Lib.UnsafeStr
import Derived.Lib.AppendStr
set_option linter.unusedSimpArgs false
set_option linter.unusedVariables false
namespace Go.Proofs.YtjkndfenniongaaGreatDoor
open Go Go.RowKit
set_option maxRecDepth 10000 in
/-- A text more in a Writer. -/
theorem w_str (B b : Nat) (bs : List Value) (s : ByteArray) (w : World) (h : WrF w B b bs) (hlen : bs.length + s.size ≤ 140737488355328) (hBw : B ≤ w.heap.size) :
    Calls Tryz.prog 53 #[.pointer (some ⟨b, 0, none⟩), .string s] w fun e w' => e = .returned (.tuple #[.int .i64 s.size, .nilIface]) ∧ WrF w' B b (bs ++ Lib.strCells s) ∧ Below B w w' ∧ Lib.OthersKept 5 (some b) w w' := by
  refine opq fun R HR => ?_
  have HC := Lib.hid (w_check B b bs w h)
  clear h
  obtain ⟨i0, hi, hz0, hz1, hz2⟩ := info_parts info5
  go_enter Tryz.func53, Tryz.ntmps53
  go_wp2_with fail
  refine HC.out.mono ?_
  rintro e w1 ⟨rfl, hA, hb1, hk1⟩
  have KK := Lib.hid hk1
  clear hk1
  clear HC
  have hlt := hA.lt
  have hc0 := hA.cell0
  obtain ⟨hB, v, hbk, hown, hne⟩ := hA
  have hc1 : w1.cell? ⟨b, 1, none⟩ = some v := by simp [World.cell?, hbk]
  have hsz := hb1.size
  have KO := Lib.hid hown
  have KB := Lib.hid hbk
  have KN := Lib.hid hne
  have KI := Lib.hid hi
  have K0 := Lib.hid hz0
  have K1 := Lib.hid hz1
  have K2 := Lib.hid hz2
  have KS := Lib.hid hb1
  clear hown hbk hne hi hz0 hz1 hz2 hb1
  go_wp2_with (at_builtin; refine Lib.wpList_append_own_string _ rfl (.tmp 12) (.tmp 13) 40 9 rfl B 5 i0 Tryz.underlying40 Tryz.underlying9 KI.out K0.out K1.out K2.out _ _ _ rfl KO.out s rfl (by unfold maxLen; omega) (by omega) (by omega) ?_; intro v' w2 hown' hgrow _; obtain ⟨va, vc, rfl⟩ := owns_slice hown'; have hcell1 : w2.cell? ⟨b, 1, none⟩ = some v := (by rw [World.cell?_of_block (hgrow.block b hlt (fun e => KN.out e.symm))]; exact hc1); have hfr1 : w2.frozen? ⟨b, 1, none⟩ = false := (by rw [World.frozen?_of_block (hgrow.block b hlt (fun e => KN.out e.symm))]; simp [World.frozen?, KB.out]); have HO := Lib.hid hown'; have HG := Lib.hid hgrow; clear hown' hgrow)
  have hb2 : w2.heap[b]? = some (.cells #[.pointer (some ⟨b, 0, none⟩), v] 130 (0, 0)) := by
    rw [HG.out.block b hlt (fun e => KN.out e.symm)]; exact KB.out
  exact HR.out _ _ ⟨rfl, .inr (Lib.BuilderAt.put hB hb2 (by simpa [Lib.strCells_length] using HO.out) (by decide)), (KS.out.grown HG.out (by omega) (fun k hk => (KO.out.lt k hk).1)).setCell (p := ⟨b, 1, none⟩) hB _, (KK.out.grown HG.out (owns_kind KO.out)).setCell ⟨b, 1, none⟩ rfl _⟩
set_option maxHeartbeats 2000000 in
set_option maxRecDepth 100000 in
/-- What a Writer holds that is not empty, as a string. -/
theorem w_string (B b : Nat) (l : List UInt8) (w : World) (h : WrF w B b (Lib.byteCells l)) (h0 : l ≠ []) :
    Calls Tryz.prog 27 #[.pointer (some ⟨b, 0, none⟩)] w fun e w' => e = .returned (.string ⟨l.toArray⟩) ∧ Below B w w' := by
  refine opq fun R HR => ?_
  obtain ⟨p, hB, v, hbk, hown, hne⟩ : ∃ p, Lib.BuilderAt 130 5 B b p (Lib.byteCells l) w := by
    rcases h with h | h
    · exact ⟨_, h⟩
    · exact ⟨_, h⟩
  have hl0 : l.length ≠ 0 := by simpa using h0
  rw [Lib.byteCells_length] at hown
  rcases hown.2 with ⟨_, hz⟩ | ⟨g, cap, cur, rfl, hbg, hg, hnc, hcm, hcs, htake⟩
  · exact absurd hz hl0
  have hc1 : w.drew.cell? ⟨b, 1, none⟩ = some (.slice (some ⟨g, 0, none⟩) l.length cap) := by
    have : w.drew.heap[b]? = some (.cells #[p, .slice (some ⟨g, 0, none⟩) l.length cap] 130 (0, 0)) := hbk
    simp [World.cell?, this]
  have hg' : w.drew.heap[g]? = some (.cells cur 5 (0, 0)) := hg
  have k1 : (Builtin.unsafeSliceData_ #[40] 127 #[.slice (some ⟨g, 0, none⟩) l.length cap]).run Tryz.prog w.drew = .ok (.pointer (some ⟨g, 0, none⟩)) w.drew :=
    Lib.run_unsafeSliceData_row _ _ _ _ _ _ (by omega)
  have k2 : (Builtin.unsafeString_ #[127, 3] 9 #[.pointer (some ⟨g, 0, none⟩), .int .i64 l.length]).run Tryz.prog w.drew = .ok (.string ⟨l.toArray⟩) (w.drew.freeze ⟨g, 0, none⟩ l.length) := by
    refine Lib.run_unsafeString_row w.drew 127 3 9 5 Tryz.underlying127 (by kernel_rfl) g cur.size (by simp [World.shape?, hg']) l h0 (by omega) (by unfold maxLen at hcm; omega) ?_
    intro j x hx
    have := hown.cells (g := g) rfl j (.int .u8 x.toNat) (by simp [Lib.byteCells, hx])
    exact this
  have KB := Lib.hid (Lib.below_freeze (Below.drew (Below.refl B w)) (p := ⟨g, 0, none⟩) hbg l.length)
  clear h hbk hown hne htake hcs hg hg' hcm hnc
  have mixed : Tryz.prog.follows .mixedOrders = true := by kernel_rfl
  go_enter Tryz.func27, Tryz.ntmps27
  go_wp2
  go_region_o
  all_goals (go_wp2; exact HR.out _ _ ⟨rfl, KB.out⟩)
end Go.Proofs.YtjkndfenniongaaGreatDoor
