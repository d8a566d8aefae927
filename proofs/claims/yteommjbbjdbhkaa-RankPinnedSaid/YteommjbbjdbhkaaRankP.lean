import Derived.Test.YteommjbbjdbhkaaFrame
/- Rank, in plain: items as a list. -/
set_option linter.unusedVariables false
namespace Go.Proofs.Yteommjbbjdbhkaa
structure It where
  c : Int
  h : Int
  t : Int
  p : Bool
  b : Bool
def it0 : It := ⟨0, 0, 0, false, false⟩
def lev (h : Int) : Int := if h < 1 then 0 else if h < 2 then 1 else if h < 4 then 2 else if h < 8 then 3 else if h < 16 then 4 else if h < 32 then 5 else if h < 64 then 6 else 7
theorem lev_bd (h : Int) : 0 ≤ lev h ∧ lev h ≤ 7 := by unfold lev; repeat' split <;> try omega
def pickC (l : List It) (pick : Int) : Int := if l.length = 0 then 0 else (l.getD ((Go.IntKind.u64.wrap pick) % (l.length : Int)).toNat it0).c
def levL (l : List It) (n : Int) : List It := l.filter fun x => lev x.h == n
def slowP (x : It) : Bool := x.t == 0 && !x.b
def fastP (x : It) : Bool := x.t == 1 && !x.b && !x.p
def maxL (l : List It) : Int := l.foldl (fun m x => max m (lev x.h)) 0
def minL (l : List It) : Int := l.foldl (fun m x => min m (lev x.h)) 8
def upC (l : List It) (pick : Int) : Int :=
  if ((l.filter slowP).filter (·.p)).length = 0 then (if maxL (l.filter slowP) < 2 then 0 else pickC (levL (l.filter slowP) (maxL (l.filter slowP))) pick) else pickC ((l.filter slowP).filter (·.p)) pick
def downC (l : List It) (pick : Int) : Int := pickC (levL (l.filter fastP) (minL (l.filter fastP))) pick
def ofC (l : List It) (c : Int) : It := (l.find? fun x => x.c == c).getD it0
def wantsC (l : List It) (room pick : Int) : Int × Int × Bool :=
  if upC l pick = 0 then (0, 0, false) else if 0 < room then (upC l pick, 1, true)
  else if downC l pick ≠ 0 ∧ ((ofC l (upC l pick)).p = true ∨ lev (ofC l (downC l pick)).h < lev (ofC l (upC l pick)).h) then (downC l pick, 0, true) else (0, 0, false)
theorem maxL_from (l : List It) : ∀ m : Int, m ≤ l.foldl (fun m x => max m (lev x.h)) m ∧ (∀ x ∈ l, lev x.h ≤ l.foldl (fun m x => max m (lev x.h)) m) ∧ (l.foldl (fun m x => max m (lev x.h)) m = m ∨ ∃ x ∈ l, lev x.h = l.foldl (fun m x => max m (lev x.h)) m) := by
  induction l with
  | nil => intro m; simp
  | cons y l ih =>
    intro m
    obtain ⟨h1, h2, h3⟩ := ih (max m (lev y.h))
    simp only [List.foldl_cons]
    generalize l.foldl (fun m x => max m (lev x.h)) (max m (lev y.h)) = r at *
    refine ⟨by omega, fun x hx => ?_, ?_⟩
    · rcases List.mem_cons.1 hx with e | e
      · subst e; omega
      · exact h2 x e
    · rcases h3 with e | ⟨x, hx, e⟩
      · by_cases hm : lev y.h ≤ m
        · left; omega
        · right; exact ⟨y, List.mem_cons_self, by omega⟩
      · right; exact ⟨x, List.mem_cons_of_mem _ hx, e⟩
theorem minL_from (l : List It) : ∀ m : Int, l.foldl (fun m x => min m (lev x.h)) m ≤ m ∧ (∀ x ∈ l, l.foldl (fun m x => min m (lev x.h)) m ≤ lev x.h) ∧ (l.foldl (fun m x => min m (lev x.h)) m = m ∨ ∃ x ∈ l, lev x.h = l.foldl (fun m x => min m (lev x.h)) m) := by
  induction l with
  | nil => intro m; simp
  | cons y l ih =>
    intro m
    obtain ⟨h1, h2, h3⟩ := ih (min m (lev y.h))
    simp only [List.foldl_cons]
    generalize l.foldl (fun m x => min m (lev x.h)) (min m (lev y.h)) = r at *
    refine ⟨by omega, fun x hx => ?_, ?_⟩
    · rcases List.mem_cons.1 hx with e | e
      · subst e; omega
      · exact h2 x e
    · rcases h3 with e | ⟨x, hx, e⟩
      · by_cases hm : m ≤ lev y.h
        · left; omega
        · right; exact ⟨y, List.mem_cons_self, by omega⟩
      · right; exact ⟨x, List.mem_cons_of_mem _ hx, e⟩
theorem maxL_snoc (l : List It) (x : It) : maxL (l ++ [x]) = max (maxL l) (lev x.h) := by simp [maxL, List.foldl_append]
theorem minL_snoc (l : List It) (x : It) : minL (l ++ [x]) = min (minL l) (lev x.h) := by simp [minL, List.foldl_append]
theorem maxL_bd (l : List It) : 0 ≤ maxL l ∧ maxL l ≤ 7 := by
  obtain ⟨h1, _, h3⟩ := maxL_from l 0
  refine ⟨h1, ?_⟩
  rcases h3 with e | ⟨x, _, e⟩
  · unfold maxL; omega
  · have := lev_bd x.h; unfold maxL; omega
theorem minL_bd (l : List It) : 0 ≤ minL l ∧ minL l ≤ 8 := by
  obtain ⟨h1, _, h3⟩ := minL_from l 8
  refine ⟨?_, h1⟩
  rcases h3 with e | ⟨x, _, e⟩
  · unfold minL; omega
  · have := lev_bd x.h; unfold minL; omega
theorem levL_nil {l : List It} {n : Int} (h : ∀ x ∈ l, lev x.h ≠ n) : levL l n = [] := by
  unfold levL; rw [List.filter_eq_nil_iff]; intro x hx; simpa using h x hx
theorem levL_some {l : List It} {n : Int} {x : It} (hx : x ∈ l) (h : lev x.h = n) : 0 < (levL l n).length := by
  refine List.length_pos_of_mem (a := x) ?_
  unfold levL; rw [List.mem_filter]; exact ⟨hx, by simpa using h⟩
/-- The reference's search, from level k down to 2. -/
def upR (l : List It) (pick : Int) : Nat → Int
  | 0 => 0
  | k + 1 => if 0 < (levL l ((k : Int) + 2)).length then pickC (levL l ((k : Int) + 2)) pick else upR l pick k
theorem upR_skip {l : List It} {pick : Int} : ∀ k : Nat, (∀ x ∈ l, lev x.h < 2) → upR l pick k = 0
  | 0, _ => rfl
  | k + 1, h => by
    rw [upR, levL_nil (fun x hx => by have := h x hx; omega)]
    simp only [List.length_nil, Nat.lt_irrefl, if_false]
    exact upR_skip k h
theorem upR_at {l : List It} {pick : Int} (m : Nat) (hm : 0 < (levL l ((m : Int) + 2)).length) : ∀ k : Nat, m < k → (∀ x ∈ l, lev x.h ≤ (m : Int) + 2) → upR l pick k = pickC (levL l ((m : Int) + 2)) pick
  | 0, h, _ => by omega
  | k + 1, h, hx => by
    by_cases e : k = m
    · subst e; rw [upR, if_pos hm]
    · rw [upR, levL_nil (fun x q => by have := hx x q; omega)]
      simp only [List.length_nil, Nat.lt_irrefl, if_false]
      exact upR_at m hm k (by omega) hx
theorem upR_eq (l : List It) (pick : Int) : upR l pick 6 = if maxL l < 2 then 0 else pickC (levL l (maxL l)) pick := by
  obtain ⟨h1, h2, h3⟩ := maxL_from l 0
  have hb := maxL_bd l
  change (∀ x ∈ l, lev x.h ≤ maxL l) at h2
  change (maxL l = 0 ∨ ∃ x ∈ l, lev x.h = maxL l) at h3
  by_cases h : maxL l < 2
  · rw [if_pos h]; exact upR_skip 6 (fun x hx => by have := h2 x hx; omega)
  · rw [if_neg h]
    rcases h3 with e | ⟨x, hx, e⟩
    · omega
    · have hm : maxL l = ((maxL l - 2).toNat : Int) + 2 := by omega
      have := upR_at (l := l) (pick := pick) (maxL l - 2).toNat (levL_some hx (by rw [← hm]; exact e)) 6 (by omega) (fun y hy => by rw [← hm]; exact h2 y hy)
      rw [this, ← hm]
/-- The reference's search, from level i up, of k levels. -/
def downR (l : List It) (pick : Int) : Nat → Nat → Int
  | _, 0 => 0
  | i, k + 1 => if 0 < (levL l (i : Int)).length then pickC (levL l (i : Int)) pick else downR l pick (i + 1) k
theorem downR_none {l : List It} {pick : Int} : ∀ k i : Nat, (∀ x ∈ l, (i : Int) + k ≤ lev x.h) → downR l pick i k = 0
  | 0, _, _ => rfl
  | k + 1, i, h => by
    rw [downR, levL_nil (fun x hx => by have := h x hx; omega)]
    simp only [List.length_nil, Nat.lt_irrefl, if_false]
    exact downR_none k (i + 1) (fun x hx => by have := h x hx; omega)
theorem downR_at {l : List It} {pick : Int} (m : Nat) (hm : 0 < (levL l (m : Int)).length) (hx : ∀ x ∈ l, (m : Int) ≤ lev x.h) : ∀ k i : Nat, i ≤ m → m < i + k → downR l pick i k = pickC (levL l (m : Int)) pick
  | 0, _, _, h => by omega
  | k + 1, i, h1, h2 => by
    by_cases e : i = m
    · subst e; rw [downR, if_pos hm]
    · rw [downR, levL_nil (fun x q => by have := hx x q; omega)]
      simp only [List.length_nil, Nat.lt_irrefl, if_false]
      exact downR_at m hm hx k (i + 1) (by omega) (by omega)
theorem downR_eq (l : List It) (pick : Int) : downR l pick 0 8 = pickC (levL l (minL l)) pick := by
  obtain ⟨h1, h2, h3⟩ := minL_from l 8
  have hb := minL_bd l
  change (∀ x ∈ l, minL l ≤ lev x.h) at h2
  change (minL l = 8 ∨ ∃ x ∈ l, lev x.h = minL l) at h3
  rcases h3 with e | ⟨x, hx, e⟩
  · rw [downR_none 8 0 (fun x hx => by have := h2 x hx; omega), levL_nil (fun x hx => by have := h2 x hx; have := lev_bd x.h; omega)]
    rfl
  · have hm : minL l = ((minL l).toNat : Int) := by omega
    have hl := lev_bd x.h
    have := downR_at (l := l) (pick := pick) (minL l).toNat (levL_some hx (by rw [← hm]; exact e)) (fun y hy => by rw [← hm]; exact h2 y hy) 8 0 (by omega) (by omega)
    rw [this, ← hm]
theorem pick_mem {l : List It} (h : l.length ≠ 0) (pick : Int) : ∃ x ∈ l, pickC l pick = x.c := by
  unfold pickC; rw [if_neg h]
  have h1 := Int.emod_nonneg (Go.IntKind.u64.wrap pick) (by omega : (l.length : Int) ≠ 0)
  have h2 := Int.emod_lt_of_pos (Go.IntKind.u64.wrap pick) (by omega : 0 < (l.length : Int))
  have h3 : ((Go.IntKind.u64.wrap pick) % (l.length : Int)).toNat < l.length := by omega
  refine ⟨_, List.getElem_mem h3, ?_⟩
  rw [List.getD_eq_getElem?_getD, List.getElem?_eq_getElem h3]; rfl
/-- Chunks rise from 1 on. -/
def Rise (l : List It) : Prop := ∀ x ∈ l, 1 ≤ x.c
def waitsC (l : List It) : Bool := l.any fun x => x.p && !x.b && x.t == 0
theorem pinned_len (l : List It) : ((l.filter slowP).filter (·.p)).length = 0 ↔ waitsC l = false := by
  unfold waitsC
  rw [List.any_eq_false, List.length_eq_zero_iff, List.filter_eq_nil_iff]
  constructor
  · intro h x hx hh
    simp only [Bool.and_eq_true] at hh
    exact h x (List.mem_filter.2 ⟨hx, by unfold slowP; simp only [Bool.and_eq_true]; exact ⟨hh.2, hh.1.2⟩⟩) hh.1.1
  · intro h x hx hh
    obtain ⟨h1, h2⟩ := List.mem_filter.1 hx
    unfold slowP at h2
    simp only [Bool.and_eq_true] at h2
    exact h x h1 (by simp only [Bool.and_eq_true]; exact ⟨⟨hh, h2.2⟩, h2.1⟩)
theorem up_spec {l : List It} (hr : Rise l) (pick : Int) : (upC l pick = 0 ∧ waitsC l = false) ∨ ∃ x ∈ l, x.c = upC l pick ∧ 1 ≤ x.c ∧ x.b = false ∧ x.t = 0 ∧ (x.p = true ∨ (waitsC l = false ∧ 2 ≤ lev x.h)) := by
  unfold upC
  by_cases h0 : ((l.filter slowP).filter (·.p)).length = 0
  · rw [if_pos h0]
    have hw := (pinned_len l).1 h0
    by_cases h2 : maxL (l.filter slowP) < 2
    · rw [if_pos h2]; exact .inl ⟨rfl, hw⟩
    · rw [if_neg h2]
      right
      obtain ⟨_, _, h3⟩ := maxL_from (l.filter slowP) 0
      change (maxL (l.filter slowP) = 0 ∨ ∃ x ∈ l.filter slowP, lev x.h = maxL (l.filter slowP)) at h3
      rcases h3 with e | ⟨y, hy, e⟩
      · omega
      · obtain ⟨x, hx, hc⟩ := pick_mem (l := levL (l.filter slowP) (maxL (l.filter slowP))) (by have := levL_some hy e; omega) pick
        unfold levL at hx
        obtain ⟨hx1, hx2⟩ := List.mem_filter.1 hx
        obtain ⟨hx3, hx4⟩ := List.mem_filter.1 hx1
        unfold slowP at hx4
        simp only [Bool.and_eq_true, beq_iff_eq, Bool.not_eq_true'] at hx4 hx2
        exact ⟨x, hx3, hc.symm, hr x hx3, hx4.2, hx4.1, .inr ⟨hw, by omega⟩⟩
  · rw [if_neg h0]
    right
    obtain ⟨x, hx, hc⟩ := pick_mem h0 pick
    obtain ⟨hx1, hx2⟩ := List.mem_filter.1 hx
    obtain ⟨hx3, hx4⟩ := List.mem_filter.1 hx1
    unfold slowP at hx4
    simp only [Bool.and_eq_true, beq_iff_eq, Bool.not_eq_true'] at hx4
    exact ⟨x, hx3, hc.symm, hr x hx3, hx4.2, hx4.1, .inl hx2⟩
theorem down_spec {l : List It} (hr : Rise l) (pick : Int) : downC l pick = 0 ∨ ∃ x ∈ l, x.c = downC l pick ∧ x.b = false ∧ x.t = 1 ∧ x.p = false := by
  unfold downC
  by_cases h0 : (levL (l.filter fastP) (minL (l.filter fastP))).length = 0
  · left; unfold pickC; rw [if_pos h0]
  · right
    obtain ⟨x, hx, hc⟩ := pick_mem h0 pick
    unfold levL at hx
    obtain ⟨hx1, _⟩ := List.mem_filter.1 hx
    obtain ⟨hx3, hx4⟩ := List.mem_filter.1 hx1
    unfold fastP at hx4
    simp only [Bool.and_eq_true, beq_iff_eq, Bool.not_eq_true'] at hx4
    exact ⟨x, hx3, hc.symm, hx4.1.2, hx4.1.1, hx4.2⟩
theorem wants_spec {l : List It} (hr : Rise l) (room pick : Int) :
    (wantsC l room pick = (0, 0, false) ∧ ¬ (waitsC l = true ∧ 0 < room)) ∨
    (∃ x ∈ l, wantsC l room pick = (x.c, 1, true) ∧ 0 < room ∧ x.b = false ∧ x.t = 0 ∧ (x.p = true ∨ (waitsC l = false ∧ 2 ≤ lev x.h))) ∨
    (∃ x ∈ l, wantsC l room pick = (x.c, 0, true) ∧ room ≤ 0 ∧ x.b = false ∧ x.t = 1 ∧ x.p = false) := by
  unfold wantsC
  rcases up_spec hr pick with ⟨h1, h2⟩ | ⟨x, hx, hc, hc1, hb, ht, hp⟩
  · rw [if_pos h1]; exact .inl ⟨rfl, fun q => by rw [h2] at q; exact absurd q.1 (by simp)⟩
  · rw [if_neg (by omega)]
    by_cases hroom : 0 < room
    · rw [if_pos hroom]; exact .inr (.inl ⟨x, hx, by rw [hc], hroom, hb, ht, hp⟩)
    · rw [if_neg hroom]
      by_cases hd : downC l pick ≠ 0 ∧ ((ofC l (upC l pick)).p = true ∨ lev (ofC l (downC l pick)).h < lev (ofC l (upC l pick)).h)
      · rw [if_pos hd]
        rcases down_spec hr pick with e | ⟨y, hy, hyc, hyb, hyt, hyp⟩
        · exact absurd e hd.1
        · exact .inr (.inr ⟨y, hy, by rw [hyc], by omega, hyb, hyt, hyp⟩)
      · rw [if_neg hd]; exact .inl ⟨rfl, fun q => hroom q.2⟩
end Go.Proofs.Yteommjbbjdbhkaa
