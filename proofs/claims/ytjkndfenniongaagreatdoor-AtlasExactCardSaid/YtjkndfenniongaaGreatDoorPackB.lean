import Derived.Test.YtjkndfenniongaaGreatDoorPackA
set_option linter.unusedSimpArgs false
set_option linter.unusedVariables false
namespace Go.Proofs.YtjkndfenniongaaGreatDoor
open Go Go.RowKit
set_option maxRecDepth 10000 in
/-- One byte more in a Writer. -/
theorem w_byte (B b : Nat) (bs : List Value) (c : Int) (w : World) (h : WrF w B b bs) (hlen : bs.length + 1 ≤ 140737488355328) (hBw : B ≤ w.heap.size) :
    Calls Tryz.prog 26 #[.pointer (some ⟨b, 0, none⟩), .int .u8 c] w fun e w' => e = .returned .nilIface ∧ WrF w' B b (bs ++ [.int .u8 c]) ∧ Below B w w' ∧ Lib.OthersKept 5 (some b) w w' := by
  refine opq fun R HR => ?_
  have HC := Lib.hid (w_check B b bs w h)
  clear h
  obtain ⟨i0, hi, hz0, hz1, hz2⟩ := info_parts info5
  go_enter Tryz.func26, Tryz.ntmps26
  go_wp2_with fail
  refine HC.out.mono ?_
  rintro e w1 ⟨rfl, hA, hb1, hk1⟩
  have KK := Lib.hid hk1
  clear hk1
  clear HC
  have hlt := hA.lt
  have hc0 := hA.cell0
  obtain ⟨hB, v, hbk, hown, hne⟩ := hA
  have hc1 : w1.cell? ⟨b, 1, none⟩ = some v := by simp [World.cell?, hbk]
  have hsz := hb1.size
  have KO := Lib.hid hown
  have KB := Lib.hid hbk
  have KN := Lib.hid hne
  have KI := Lib.hid hi
  have K0 := Lib.hid hz0
  have K1 := Lib.hid hz1
  have K2 := Lib.hid hz2
  have KS := Lib.hid hb1
  clear hown hbk hne hi hz0 hz1 hz2 hb1
  go_wp2_with (at_builtin; refine wpList_append_own _ rfl (.tmp 11) (.tmp 13) 40 rfl B 5 i0 (.int .u8 0) 1 1 Tryz.underlying40 KI.out K0.out K1.out K2.out rfl (by decide) _ _ _ rfl (KO.out.alloc _) ⟨w1.heap.size, 0, none⟩ 1 1 [.int .u8 c] rfl rfl (one_new _ _ _) (fun u hu => (by simp at hu; subst hu; rfl)) (by unfold maxLen; omega) (by omega) (by simp only [World.size_alloc]; omega) ?_; intro v' w2 hown' hgrow _; obtain ⟨va, vc, rfl⟩ := owns_slice hown'; have hcell1 : w2.cell? ⟨b, 1, none⟩ = some v := (by rw [World.cell?_of_block (hgrow.block b (by simp only [World.size_alloc]; omega) (fun e => KN.out e.symm)), World.cell?_alloc_lt _ _ _ hlt]; exact hc1); have hfr1 : w2.frozen? ⟨b, 1, none⟩ = false := (by rw [World.frozen?_of_block (hgrow.block b (by simp only [World.size_alloc]; omega) (fun e => KN.out e.symm))]; rw [World.frozen?_of_block (Below.heap_alloc w1 _ b hlt)]; simp [World.frozen?, KB.out]); have HO := Lib.hid hown'; have HG := Lib.hid hgrow; clear hown' hgrow)
  have hb2 : w2.heap[b]? = some (.cells #[.pointer (some ⟨b, 0, none⟩), v] 130 (0, 0)) := by
    rw [HG.out.block b (by simp only [World.size_alloc]; omega) (fun e => KN.out e.symm), Below.heap_alloc w1 _ b hlt]; exact KB.out
  exact HR.out _ _ ⟨rfl, .inr (Lib.BuilderAt.put hB hb2 (by simpa using HO.out) (by decide)), ((KS.out.alloc (by omega) _).grown HG.out (by simp only [World.size_alloc]; omega) (fun k hk => (KO.out.lt k hk).1)).setCell (p := ⟨b, 1, none⟩) hB _, ((KK.out.alloc _).grown HG.out (owns_kind (KO.out.alloc _))).setCell ⟨b, 1, none⟩ rfl _⟩
end Go.Proofs.YtjkndfenniongaaGreatDoor
