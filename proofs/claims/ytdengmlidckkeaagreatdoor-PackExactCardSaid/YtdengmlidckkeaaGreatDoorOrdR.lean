import Derived.Test.YtdengmlidckkeaaGreatDoorOrdQ
set_option linter.unusedSimpArgs false
set_option linter.unusedVariables false
namespace Go.Proofs.YtdengmlidckkeaaGreatDoor
open Go Go.RowKit
/-- What the library's functions read lies there. -/
structure LibOK (w : World) : Prop where
  vars : VarsOK w
  utf : Lib.Utf8Tabs 0 1 w
  mx : ∃ m, w.cell? ⟨5, 0, none⟩ = some (.int .i64 m)
theorem LibOK.lt {w : World} (h : LibOK w) : 5 < w.heap.size := by
  obtain ⟨m, hm⟩ := h.mx
  rcases Nat.lt_or_ge 5 w.heap.size with q | q
  · exact q
  · exfalso; unfold World.cell? at hm; rw [Array.getElem?_eq_none q] at hm; simp at hm
theorem LibOK.block {w w' : World} (h : LibOK w) (e : ∀ g, g < 6 → w'.heap[g]? = w.heap[g]?) : LibOK w' :=
  ⟨h.vars.block fun g hg => e g (by omega), ⟨fun c hc => (World.cell?_of_block (w := w) (e 0 (by omega))).trans (h.utf.1 c hc), fun i hi => ⟨(World.cell?_of_block (w := w) (e 1 (by omega))).trans (h.utf.2 i hi).1, (World.cell?_of_block (w := w) (e 1 (by omega))).trans (h.utf.2 i hi).2⟩⟩, let ⟨m, hm⟩ := h.mx; ⟨m, (World.cell?_of_block (w := w) (e 5 (by omega))).trans hm⟩⟩
theorem LibOK.mod {S : Nat → Prop} {w w' : World} (h : LibOK w) (M : Mod S w w') (hS : ∀ i, S i → 6 ≤ i) : LibOK w' :=
  h.block fun g hg => M.block g (by have := h.lt; omega) (fun q => by have := hS g q; omega)
theorem LibOK.same {w w' : World} (h : LibOK w) (M : Same w w') : LibOK w' := h.mod M fun _ q => q.elim
theorem LibOK.tab {w : World} (h : LibOK w) : TabOK w := h.vars.tab
/-- The reader at b: the words that are left, and whether one was missing. -/
structure RdS (w : World) (b : Nat) (st : Rd) : Prop where
  blk : ∃ a, Blk w b #[.slice a st.1.length st.1.length, .bool st.2] ∧ (0 < st.1.length → ∃ g o, a = some ⟨g, o, none⟩ ∧ g ≠ b ∧ g < w.heap.size ∧ ∀ i s, st.1[i]? = some s → w.cell? ⟨g, o + i, none⟩ = some (strV s))
  short : ∀ s ∈ st.1, s.length ≤ 50000
theorem RdS.same {w w' : World} {b : Nat} {st : Rd} (h : RdS w b st) (M : Same w w') : RdS w' b st := by
  obtain ⟨⟨a, hb, hr⟩, hs⟩ := h
  refine ⟨⟨a, hb.mod M (fun q => q), fun hp => ?_⟩, hs⟩
  obtain ⟨g, o, ha, hg, hlt, hc⟩ := hr hp
  exact ⟨g, o, ha, hg, Nat.lt_of_lt_of_le hlt M.size, fun i s hi => (M.cell hlt (fun q => q) _).trans (hc i s hi)⟩
theorem RdS.lt {w : World} {b : Nat} {st : Rd} (h : RdS w b st) : b < w.heap.size := let ⟨_, hb, _⟩ := h.blk; hb.lt
theorem RdS.flag {w : World} {b : Nat} {st : Rd} (h : RdS w b st) (v : Bool) : RdS (w.setCell ⟨b, 1, none⟩ (.bool v)) b (st.1, v) := by
  obtain ⟨⟨a, hb, hr⟩, hs⟩ := h
  refine ⟨⟨a, hb.set 1 _, fun hp => ?_⟩, hs⟩
  obtain ⟨g, o, ha, hg, hlt, hc⟩ := hr hp
  exact ⟨g, o, ha, hg, by simp only [World.size_setCell]; exact hlt, fun i s hi => (World.cell?_setCell_other _ _ _ _ (fun e => hg (by injection e with e1; exact e1.symm))).trans (hc i s hi)⟩
theorem next_short (st : Rd) (h : ∀ s ∈ st.1, s.length ≤ 50000) : (rdNext st).1.length ≤ 50000 := by
  obtain ⟨r, b⟩ := st
  cases r with
  | nil => exact Nat.zero_le _
  | cons s r => exact h s (by simp)
abbrev At (b : Nat) : Nat → Prop := fun i => i = b
set_option maxRecDepth 10000 in
theorem next_any (b : Nat) (st : Rd) (w : World) (h : RdS w b st) : Calls Tryz.prog 69 #[bptr b] w fun e w' => e = .returned (strV (rdNext st).1) ∧ RdS w' b (rdNext st).2 ∧ Mod (At b) w w' := by
  refine opq fun R HR => ?_
  obtain ⟨ws, bad⟩ := st
  have H := Lib.hid h
  have hlt := h.lt
  obtain ⟨⟨a, hb, hr⟩, hs⟩ := h
  have hc := hb.cell
  have hf := hb.free
  cases ws with
  | nil =>
    dsimp only [rdNext] at *
    have L1 := Lib.hid (H.out.flag true)
    clear hb hr hs H
    go_enter Tryz.func69, Tryz.ntmps69
    go_wp2
    exact HR.out _ _ ⟨rfl, L1.out, (Mod.refl (At b) w).setCell (p := ⟨b, 1, none⟩) (fun _ => rfl) _⟩
  | cons s r =>
    dsimp only [rdNext] at *
    obtain ⟨g, o, rfl, hg, hgl, hcg⟩ := hr (by simp)
    have hc0 : w.cell? ⟨g, o, none⟩ = some (.string ⟨s.toArray⟩) := hcg 0 s rfl
    have hc1 := Lib.hid (fun i t (hi : r[i]? = some t) => hcg (i + 1) t (by simpa using hi))
    have hfin : ∀ (a' : Option Addr), (0 < r.length → a' = some ⟨g, o + 1, none⟩) → RdS (w.setCell ⟨b, 0, none⟩ (.slice a' r.length r.length)) b (r, bad) := by
      intro a' ha'
      refine ⟨⟨a', hb.set 0 _, fun hp => ⟨g, o + 1, ha' hp, hg, by simp only [World.size_setCell]; exact hgl, fun i t hi => ?_⟩⟩, fun t ht => hs t (by simp [ht])⟩
      have := hc1.out i t hi
      rw [show o + (i + 1) = o + 1 + i from by omega] at this
      exact (World.cell?_setCell_other _ _ _ _ (fun e => hg (by injection e with e1; exact e1.symm))).trans this
    have HF := Lib.hid hfin
    have HM := Lib.hid (fun v => (Mod.refl (At b) w).setCell (p := ⟨b, 0, none⟩) (fun _ => rfl) v)
    clear hb hr hs H hcg hc1 hfin
    cases r with
    | nil =>
      go_enter Tryz.func69, Tryz.ntmps69
      go_wp2
      exact HR.out _ _ ⟨rfl, HF.out _ (fun q => absurd q (by simp)), HM.out _⟩
    | cons t r =>
      obtain ⟨n, hn⟩ : ∃ n, r.length = n := ⟨_, rfl⟩
      have hl1 : (s :: t :: r).length = n + 1 + 1 := by simp [hn]
      have hl2 : (t :: r).length = n + 1 := by simp [hn]
      rw [hl1] at hc
      rw [hl2] at HF
      have hz : (((n : Int) + 1 + 1) == 0) = false := beq_eq_false_iff_ne.2 (by omega)
      go_enter Tryz.func69, Tryz.ntmps69
      go_wp2
      exact HR.out _ _ ⟨rfl, HF.out _ (fun q => rfl), HM.out _⟩
end Go.Proofs.YtdengmlidckkeaaGreatDoor
