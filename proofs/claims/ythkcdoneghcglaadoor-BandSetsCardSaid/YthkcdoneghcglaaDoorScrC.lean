import Derived.Test.YthkcdoneghcglaaDoorScrB
import Derived.Test.YthkcdoneghcglaaDoorFrame
import Derived.Test.YthkcdoneghcglaaDoorRows2
import Derived.Deep.AppendLies
set_option linter.unusedSimpArgs false
set_option linter.unusedVariables false
/- Sums in memory; the small functions of scrub and of the reference. -/
namespace Go.Proofs.YthkcdoneghcglaaDoor
open Go Go.RowKit
abbrev smC (x : Sm) : List Value := [.int .i64 x.c, .int .i64 x.t, .int .i64 x.s, .int .u32 (x.h : Int)]
abbrev smV (x : Sm) : Value := .agg #[.int .i64 x.c, .int .i64 x.t, .int .i64 x.s, .int .u32 (x.h : Int)]
/-- A sum's four cells. -/
abbrev Cell4 (w : World) (b p : Nat) (x : Sm) : Prop := w.cell? ⟨b, p, none⟩ = some (.int .i64 x.c) ∧ w.cell? ⟨b, p + 1, none⟩ = some (.int .i64 x.t) ∧ w.cell? ⟨b, p + 2, none⟩ = some (.int .i64 x.s) ∧ w.cell? ⟨b, p + 3, none⟩ = some (.int .u32 (x.h : Int))
/-- Sums in memory. -/
def Sms (w : World) (a : Option Addr) (L : List Sm) : Prop := 0 < L.length → ∃ b o, a = some ⟨b, o, none⟩ ∧ b < w.heap.size ∧ ∀ i x, L[i]? = some x → Cell4 w b (o + i * 4) x
theorem cell4_same {w w' : World} (M : Same w w') {b p : Nat} {x : Sm} (hb : b < w.heap.size) (h : Cell4 w b p x) : Cell4 w' b p x := by
  have k := fun o' => M.cell hb (fun q => q) o'
  exact ⟨(k _).trans h.1, (k _).trans h.2.1, (k _).trans h.2.2.1, (k _).trans h.2.2.2⟩
theorem Sms.same {w w' : World} {a : Option Addr} {L : List Sm} (h : Sms w a L) (M : Same w w') : Sms w' a L := by
  intro hp
  obtain ⟨b, o, ha, hb, hc⟩ := h hp
  exact ⟨b, o, ha, Nat.lt_of_lt_of_le hb M.size, fun i x hx => cell4_same M hb (hc i x hx)⟩
theorem Sms.tail {w : World} {b o : Nat} {x : Sm} {L : List Sm} (h : Sms w (some ⟨b, o, none⟩) (x :: L)) : Sms w (some ⟨b, o + 4, none⟩) L := by
  intro hp
  obtain ⟨b', o', ha, hb, hc⟩ := h (by simp)
  cases ha
  exact ⟨b, o + 4, rfl, hb, fun i y hy => by have := hc (i + 1) y (by simpa using hy); rw [show o + (i + 1) * 4 = o + 4 + i * 4 from by omega] at this; exact this⟩
theorem new4 (w : World) (x : Sm) (t : TypeId) : ∀ j u, (smC x)[j]? = some u → (w.alloc (.cells #[.int .i64 x.c, .int .i64 x.t, .int .i64 x.s, .int .u32 (x.h : Int)] t)).cell? (Addr.add ⟨w.heap.size, 0, none⟩ j) = some u := by
  intro j u hj
  match j, hj with
  | 0, hj => simp at hj; subst hj; simp [Addr.add]
  | 1, hj => simp at hj; subst hj; simp [Addr.add, go_sem]
  | 2, hj => simp at hj; subst hj; simp [Addr.add, go_sem]
  | 3, hj => simp at hj; subst hj; simp [Addr.add, go_sem]
theorem flat_len (L : List Sm) : (L.flatMap smC).length = L.length * 4 := by
  induction L with
  | nil => rfl
  | cons x L ih => rw [List.flatMap_cons, List.length_append, ih, List.length_cons]; simp; omega
theorem flat_get : ∀ (L : List Sm) (i j : Nat) (x : Sm), L[i]? = some x → j < 4 → (L.flatMap smC)[i * 4 + j]? = (smC x)[j]?
  | [], i, j, x, h, _ => by simp at h
  | y :: L, 0, j, x, h, hj => by
    simp at h; subst h
    rw [List.flatMap_cons, List.getElem?_append_left (by simp; omega)]; simp
  | y :: L, i + 1, j, x, h, hj => by
    rw [List.flatMap_cons, List.getElem?_append_right (by simp; omega)]
    have := flat_get L i j x (by simpa using h) hj
    rw [← this]; congr 1; simp; omega
theorem owns_same {w w' : World} {base size n : Nat} {e : TypeId} {v : Value} {xs : List Value} (h : w.ownsRow base e size v n xs) (M : Same w w') : w'.ownsRow base e size v n xs := by
  obtain ⟨hl, h0 | ⟨g, cap, cur, hv, hb, hh, r⟩⟩ := h
  · exact ⟨hl, .inl h0⟩
  · have hlt : g < w.heap.size := by
      rcases Nat.lt_or_ge g w.heap.size with q | q
      · exact q
      · rw [Array.getElem?_eq_none q] at hh; cases hh
    exact ⟨hl, .inr ⟨g, cap, cur, hv, hb, (M.block g hlt (fun q => q)).trans hh, r⟩⟩
theorem empty_owns (w : World) (base size : Nat) (e : TypeId) (h : base ≤ w.heap.size) : (w.alloc (.cells #[] e)).ownsRow base e size (.slice (some ⟨w.heap.size, 0, none⟩) 0 0) 0 [] :=
  ⟨by simp, .inr ⟨w.heap.size, 0, #[], rfl, h, (by show (w.heap.push _)[w.heap.size]? = _; exact Array.getElem?_push_size), Nat.le_refl _, Nat.zero_le _, by simp, by simp⟩⟩
theorem sms_own {w : World} {base : Nat} {ty : TypeId} {v : Value} {L : List Sm} (h : w.ownsRow base ty 4 v L.length (L.flatMap smC)) : ∃ a c, v = .slice a L.length c ∧ Sms w a L := by
  by_cases hp : 0 < L.length
  · obtain ⟨g, cap, hv, hb, hc, hr⟩ := RowV.of_owns h hp
    refine ⟨some ⟨g, 0, none⟩, cap, hv, fun _ => ⟨g, 0, rfl, hr.lt, fun i x hx => ?_⟩⟩
    have hi : i < L.length := (List.getElem?_eq_some_iff.1 hx).1
    have key : ∀ j, j < 4 → w.cell? ⟨g, 0 + i * 4 + j, none⟩ = some ((L.flatMap smC).getD (i * 4 + j) undef) := fun j hj => by
      rw [Nat.zero_add]; exact hr.cell (i * 4 + j) (by omega)
    have get : ∀ j (v : Value), j < 4 → (smC x)[j]? = some v → w.cell? ⟨g, 0 + i * 4 + j, none⟩ = some v := fun j v hj hv => by
      rw [key j hj, List.getD_eq_getElem?_getD, flat_get L i j x hx hj, hv]; rfl
    exact ⟨get 0 _ (by omega) rfl, get 1 _ (by omega) rfl, get 2 _ (by omega) rfl, get 3 _ (by omega) rfl⟩
  · have h0 : L.length = 0 := by omega
    rcases h.2 with ⟨hv, _⟩ | ⟨g, cap, cur, hv, _⟩
    · exact ⟨none, 0, by rw [hv, h0], fun q => absurd q hp⟩
    · exact ⟨some ⟨g, 0, none⟩, cap, hv, fun q => absurd q hp⟩
theorem info46 : (Tryd.prog.info? 46).map (fun i => (i.zero, i.size, i.bytes)) = some (some (.agg #[.int .i64 0, .int .i64 0, .int .i64 0, .int .u32 0]), 4, 32) := by kernel_rfl
theorem info65 : (Tryd.prog.info? 65).map (fun i => (i.zero, i.size, i.bytes)) = some (some (.agg #[.int .i64 0, .int .i64 0, .int .i64 0, .int .u32 0]), 4, 32) := by kernel_rfl
theorem info32 : (Tryd.prog.info? 32).map (fun i => (i.zero, i.size, i.bytes)) = some (some (.agg #[.int .i64 0, .int .i64 0]), 2, 16) := by kernel_rfl
theorem beqF {a b : Int} (h : a ≠ b) : (a == b) = false := by rw [beq_eq_false_iff_ne]; exact h
theorem bneT {a b : Int} (h : a ≠ b) : (a != b) = true := by simp [bne, beqF h]
theorem kind_any (x y : Sm) (w : World) : Calls Tryd.prog 31 #[smV x, smV y] w fun e w' => e = .returned (.int .i64 (kd x y)) ∧ Same w w' := by
  refine opq fun R HR => ?_
  obtain ⟨c, t, s, h⟩ := x
  obtain ⟨c', t', s', h'⟩ := y
  unfold kd at HR
  dsimp only at HR
  by_cases hh : h = h'
  · subst hh
    rw [if_pos rfl] at HR
    by_cases ht : t = t'
    · subst ht
      by_cases hs : s = s'
      · subst hs
        rw [if_pos ⟨rfl, rfl⟩] at HR
        go_enter Tryd.func31, Tryd.ntmps31
        go_wp2
        exact HR.out _ _ ⟨rfl, ((Mod.refl _ w).alloc _).alloc _⟩
      · rw [if_neg (fun q => hs q.2)] at HR
        have b1 := beqF hs
        have b2 := bneT hs
        go_enter Tryd.func31, Tryd.ntmps31
        go_wp2
        exact HR.out _ _ ⟨rfl, ((Mod.refl _ w).alloc _).alloc _⟩
    · rw [if_neg (fun q => ht q.1)] at HR
      have b1 := beqF ht
      have b2 := bneT ht
      go_enter Tryd.func31, Tryd.ntmps31
      go_wp2
      exact HR.out _ _ ⟨rfl, ((Mod.refl _ w).alloc _).alloc _⟩
  · rw [if_neg hh] at HR
    have hz : (h : Int) ≠ (h' : Int) := by omega
    have b1 := beqF hz
    have b2 := bneT hz
    go_enter Tryd.func31, Tryd.ntmps31
    go_wp2
    exact HR.out _ _ ⟨rfl, ((Mod.refl _ w).alloc _).alloc _⟩
theorem can_any (x : Sm) (w : World) : Calls Tryd.prog 32 #[.int .i64 x.c, .agg #[.int .i64 x.t, .int .i64 x.s]] w fun e w' => e = .returned (.bool (can x)) ∧ Same w w' := by
  refine opq fun R HR => ?_
  obtain ⟨c, t, s, h⟩ := x
  unfold can at HR
  dsimp only at HR ⊢
  by_cases h1 : 1 ≤ c
  · by_cases h2 : c ≤ 1023
    · by_cases h3 : t = 0
      · subst h3
        by_cases h4 : 0 ≤ s
        · by_cases h5 : s ≤ 255
          · rw [decide_eq_true ⟨h1, h2, .inl rfl, h4, h5⟩] at HR
            go_enter Tryd.func32, Tryd.ntmps32
            go_wp2
            exact HR.out _ _ ⟨rfl, (Mod.refl _ w).alloc _⟩
          · rw [decide_eq_false (fun q => h5 q.2.2.2.2)] at HR
            go_enter Tryd.func32, Tryd.ntmps32
            go_wp2
            exact HR.out _ _ ⟨rfl, (Mod.refl _ w).alloc _⟩
        · rw [decide_eq_false (fun q => h4 q.2.2.2.1)] at HR
          go_enter Tryd.func32, Tryd.ntmps32
          go_wp2
          exact HR.out _ _ ⟨rfl, (Mod.refl _ w).alloc _⟩
      · have b1 := beqF h3
        by_cases h6 : t = 1
        · subst h6
          by_cases h4 : 0 ≤ s
          · by_cases h5 : s ≤ 255
            · rw [decide_eq_true ⟨h1, h2, .inr rfl, h4, h5⟩] at HR
              go_enter Tryd.func32, Tryd.ntmps32
              go_wp2
              exact HR.out _ _ ⟨rfl, (Mod.refl _ w).alloc _⟩
            · rw [decide_eq_false (fun q => h5 q.2.2.2.2)] at HR
              go_enter Tryd.func32, Tryd.ntmps32
              go_wp2
              exact HR.out _ _ ⟨rfl, (Mod.refl _ w).alloc _⟩
          · rw [decide_eq_false (fun q => h4 q.2.2.2.1)] at HR
            go_enter Tryd.func32, Tryd.ntmps32
            go_wp2
            exact HR.out _ _ ⟨rfl, (Mod.refl _ w).alloc _⟩
        · have b2 := beqF h6
          rw [decide_eq_false (fun q => q.2.2.1.elim h3 h6)] at HR
          go_enter Tryd.func32, Tryd.ntmps32
          go_wp2
          exact HR.out _ _ ⟨rfl, (Mod.refl _ w).alloc _⟩
    · rw [decide_eq_false (fun q => h2 q.2.1)] at HR
      go_enter Tryd.func32, Tryd.ntmps32
      go_wp2
      exact HR.out _ _ ⟨rfl, (Mod.refl _ w).alloc _⟩
  · rw [decide_eq_false (fun q => h1 q.1)] at HR
    go_enter Tryd.func32, Tryd.ntmps32
    go_wp2
    exact HR.out _ _ ⟨rfl, (Mod.refl _ w).alloc _⟩
end Go.Proofs.YthkcdoneghcglaaDoor
