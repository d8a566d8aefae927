import Derived.Test.YtdengmlidckkeaaGreatDoorPackT
import Derived.Test.YtdengmlidckkeaaGreatDoorShelfB
import Derived.Test.YtdengmlidckkeaaGreatDoorShelfC
set_option linter.unusedSimpArgs false
set_option linter.unusedVariables false
namespace Go.Proofs.YtdengmlidckkeaaGreatDoor
open Go Go.RowKit
/-- A builder at b whose buffer lies behind the world w0. -/
def Buf (w0 w : World) (b : Nat) (p : Value) (bs : List Value) : Prop := ∃ v, w.heap[b]? = some (.cells #[p, v] 113 (0, 0)) ∧ w.ownsRowF w0.heap.size 5 1 v bs.length bs ∧ b < w0.heap.size ∧ Mod (fun i => i = b) w0 w
abbrev bptr (b : Nat) : Value := .pointer (some ⟨b, 0, none⟩)
theorem ownsF_mod {w w' : World} {S : Nat → Prop} {base size n : Nat} {e : TypeId} {v : Value} {xs : List Value} (h : w.ownsRowF base e size v n xs) (M : Mod S w w') (hS : ∀ i, S i → i < base) : w'.ownsRowF base e size v n xs := by
  obtain ⟨hl, h0 | ⟨g, cap, cur, fz, hv, hb, hh, r⟩⟩ := h
  · exact ⟨hl, .inl h0⟩
  · have hlt : g < w.heap.size := by
      rcases Nat.lt_or_ge g w.heap.size with q | q
      · exact q
      · rw [Array.getElem?_eq_none q] at hh; cases hh
    exact ⟨hl, .inr ⟨g, cap, cur, fz, hv, hb, (M.block g hlt (fun q => by have := hS g q; omega)).trans hh, r⟩⟩
theorem ownsF_slice {w : World} {base size n : Nat} {e : TypeId} {v : Value} {xs : List Value} (h : w.ownsRowF base e size v n xs) : ∃ a c, v = .slice a n c := by
  rcases h.2 with ⟨rfl, rfl⟩ | ⟨g, cap, cur, fz, rfl, _⟩
  · exact ⟨_, _, rfl⟩
  · exact ⟨_, _, rfl⟩
theorem heap_set0 (w : World) (b : Nat) (p q v : Value) (h : w.heap[b]? = some (.cells #[p, v] 113 (0, 0))) : (w.setCell ⟨b, 0, none⟩ q).heap[b]? = some (.cells #[q, v] 113 (0, 0)) := by
  simp [World.setCell, Array.getElem?_modify, h]
theorem heap_set1 (w : World) (b : Nat) (p q v : Value) (h : w.heap[b]? = some (.cells #[p, v] 113 (0, 0))) : (w.setCell ⟨b, 1, none⟩ q).heap[b]? = some (.cells #[p, q] 113 (0, 0)) := by
  simp [World.setCell, Array.getElem?_modify, h]
theorem lt_of_heap {w : World} {b : Nat} {o : Obj} (h : w.heap[b]? = some o) : b < w.heap.size := by
  rcases Nat.lt_or_ge b w.heap.size with q | q
  · exact q
  · rw [Array.getElem?_eq_none q] at h; cases h
theorem check65 (b : Nat) (p v : Value) (w : World) (hb : w.heap[b]? = some (.cells #[p, v] 113 (0, 0))) (hp : p = .pointer none ∨ p = bptr b) :
    Calls Tryz.prog 86 #[bptr b] w fun e w' => e = .returned (.tuple #[]) ∧ w'.heap[b]? = some (.cells #[bptr b, v] 113 (0, 0)) ∧ Mod (fun i => i = b) w w' := by
  rcases hp with rfl | rfl
  · refine (Any.Builder_copyCheck_fresh { Tryz.lays168 with } Tryz.Builder_Extra_168.toX72 b w (by simp [World.cell?, hb]) (by simp [World.shape?, hb]; rfl) (by simp [World.frozen?, hb])).mono ?_
    rintro e w' ⟨rfl, rfl⟩
    exact ⟨rfl, heap_set0 w b _ _ v hb, (Mod.refl (fun i => i = b) w).setCell (p := ⟨b, 0, none⟩) (fun _ => rfl) _⟩
  · refine (Any.Builder_copyCheck_used { Tryz.lays168 with } Tryz.Builder_Extra_168.toX72 b w (by simp [World.cell?, hb])).mono ?_
    rintro e w' ⟨rfl, rfl⟩
    exact ⟨rfl, hb, Mod.refl _ _⟩
set_option maxRecDepth 10000 in
theorem rune_any (w0 : World) (b : Nat) (p : Value) (bs : List Value) (r : Int) (hr0 : -2147483648 ≤ r) (hr1 : r ≤ 2147483647) (w : World) (h : Buf w0 w b p bs) (hp : p = .pointer none ∨ p = bptr b) (hlen : bs.length + 4 ≤ 140737488355328) :
    Calls Tryz.prog 61 #[bptr b, .int .i32 r] w fun e w' => ∃ n, e = .returned (.tuple #[.int .i64 n, .nilIface]) ∧ Buf w0 w' b (bptr b) (bs ++ Lib.runeCells r) := by
  refine opq fun R HR => ?_
  obtain ⟨v, hb, hown, hbl, hM⟩ := h
  have HC := Lib.hid (check65 b p v w hb hp)
  have hsz := hM.size
  have KO := Lib.hid hown
  have KM := Lib.hid hM
  clear hb hp hown hM
  go_enter Tryz.func61, Tryz.ntmps61
  go_wp2_with fail
  refine HC.out.mono ?_
  rintro e w1 ⟨rfl, hb1, hM1⟩
  have K1 := Lib.hid (ownsF_mod KO.out hM1 (fun i q => by omega))
  have K2 := Lib.hid (KM.out.trans hM1)
  have hc1 : w1.cell? ⟨b, 1, none⟩ = some v := by simp [World.cell?, hb1]
  have hc0 : w1.cell? ⟨b, 0, none⟩ = some (bptr b) := by simp [World.cell?, hb1]
  have hlt := lt_of_heap hb1
  have KB := Lib.hid hb1
  have hsz1 : w0.heap.size ≤ w1.heap.size := K2.out.size
  clear hM1 hb1 HC KO KM
  obtain ⟨va, vc, rfl⟩ := ownsF_slice K1.out
  have HA := Lib.hid (Tryz.utf8_AppendRune_row w0.heap.size _ bs.length bs r hr0 hr1 w1 K1.out hlen hsz1)
  go_wp2_with fail
  refine HA.out.mono ?_
  rintro e w2 ⟨v', rfl, hown', o, hg⟩
  obtain ⟨va', vc', rfl⟩ := ownsF_slice hown'
  have hne : some b ≠ (Value.slice va bs.length vc).ownBlock := fun e => by have := (K1.out.lt b e.symm).1; omega
  have hb2 : w2.heap[b]? = some (.cells #[bptr b, .slice va bs.length vc] 113 (0, 0)) := by
    rw [hg.block b (by simp only [World.size_alloc]; omega) hne, Below.heap_alloc w1 o b hlt]; exact KB.out
  have d1 : w2.cell? ⟨b, 1, none⟩ = some (.slice va bs.length vc) := by simp [World.cell?, hb2]
  have f1 : w2.frozen? ⟨b, 1, none⟩ = false := by simp [World.frozen?, hb2]
  have L1 := Lib.hid hb2
  have L2 := Lib.hid hown'
  have L3 := Lib.hid (show Mod (fun i => i = b) w0 w2 from (K2.out.alloc o).grown hg (fun k hk hl => by have := (K1.out.lt k hk).1; omega))
  clear hb2 hown' hg HA K1 K2 KB hc1 hc0 hne
  have L4 := Lib.hid (show Buf w0 (w2.setCell ⟨b, 1, none⟩ (.slice va' (bs.length + (Lib.runeCells r).length) vc')) b (bptr b) (bs ++ Lib.runeCells r) from ⟨_, heap_set1 w2 b _ _ _ L1.out, by
    rw [List.length_append]
    exact ownsF_mod L2.out ((Mod.refl (fun i => i = b) w2).setCell (p := ⟨b, 1, none⟩) (fun _ => rfl) _) (fun i q => by omega), hbl, L3.out.setCell (p := ⟨b, 1, none⟩) (fun _ => rfl) _⟩)
  have hi1 : IntKind.i64.wrap (((bs.length + (Lib.runeCells r).length : Nat) : Int) - (bs.length : Int)) = ((Lib.runeCells r).length : Int) := by
    have : (Lib.runeCells r).length ≤ 4 := by
      unfold Lib.runeCells Lib.encodeRuneZ; rw [List.length_map]; split <;> (try split) <;> (try split) <;> (try split) <;> simp
    rw [IntWalk.i64_in _ (by omega)]; omega
  generalize (Lib.runeCells r).length = nr at *
  go_wp2_with fail
  exact HR.out _ _ ⟨_, rfl, L4.out⟩
end Go.Proofs.YtdengmlidckkeaaGreatDoor
