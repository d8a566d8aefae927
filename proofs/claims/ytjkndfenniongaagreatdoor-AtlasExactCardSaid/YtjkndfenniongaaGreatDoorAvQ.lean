import Derived.Test.YtjkndfenniongaaGreatDoorAvG
import Derived.Test.YtjkndfenniongaaGreatDoorAtR
import Derived.Lib.SliceRun
set_option linter.unusedSimpArgs false
set_option linter.unusedVariables false
set_option maxRecDepth 100000
/- A walk's own memory. -/
namespace Go.Proofs.YtjkndfenniongaaGreatDoor
open Go Go.RowKit
theorem own_mod2 {S : Nat → Prop} {w w' : World} {base size n : Nat} {e : TypeId} {v : Value} {xs : List Value} (h : w.ownsRow base e size v n xs) (M : Mod S w w') (hs : ∀ b, v.ownBlock = some b → ¬ S b) : w'.ownsRow base e size v n xs := by
  refine ⟨h.1, ?_⟩
  rcases h.2 with hn | ⟨g, cap, cur, rfl, hb, hgg, rest⟩
  · exact .inl hn
  · refine .inr ⟨g, cap, cur, rfl, hb, ?_, rest⟩
    rw [M.block g (Array.getElem?_eq_some_iff.1 hgg).1 (hs g rfl)]
    exact hgg
/-- A walk's struct in block k, and its two rows; F: the blocks that the caller keeps. -/
structure Wk (B : Nat) (F : Nat → Prop) (w : World) (k : Nat) (pv qv c2 : Value) (st : WSt) : Prop where
  blk : Blk w k #[pv, qv, c2]
  po : w.ownsRow B 3 1 pv st.1.length (st.1.map fun x => .int .i64 x)
  qo : w.ownsRow B 123 2 qv st.2.length (st.2.flatMap prC)
  fk : ¬ F k
  fb : ∀ i, F i → i < w.heap.size
  pf : ∀ b, pv.ownBlock = some b → b ≠ k ∧ ¬ F b ∧ qv.ownBlock ≠ some b
  qf : ∀ b, qv.ownBlock = some b → b ≠ k ∧ ¬ F b
  nd : st.1.Nodup
  bd : ∀ x ∈ st.1, 1 ≤ x ∧ x < 512
  qn : st.2.length ≤ 15 * st.1.length
  qu : ∀ x ∈ st.2, U64 x.1 ∧ U64 x.2
section
variable {B : Nat} {F : Nat → Prop} {w w' : World} {k : Nat} {pv qv c2 : Value} {st : WSt}
theorem Wk.same (h : Wk B F w k pv qv c2 st) (M : Same w w') : Wk B F w' k pv qv c2 st :=
  ⟨h.blk.mod M (fun q => q), own_mod2 h.po M (fun _ _ q => q), own_mod2 h.qo M (fun _ _ q => q), h.fk, fun i q => Nat.lt_of_lt_of_le (h.fb i q) M.size, h.pf, h.qf, h.nd, h.bd, h.qn, h.qu⟩
theorem Wk.more (h : Wk B F w k pv qv c2 st) (M : Same w w') : Wk B (fun i => F i ∨ (w.heap.size ≤ i ∧ i < w'.heap.size)) w' k pv qv c2 st :=
  ⟨h.blk.mod M (fun q => q), own_mod2 h.po M (fun _ _ q => q), own_mod2 h.qo M (fun _ _ q => q), fun q => q.elim h.fk (fun q => by have := h.blk.lt; omega), fun i q => q.elim (fun q => Nat.lt_of_lt_of_le (h.fb i q) M.size) (fun q => q.2),
    fun b q => ⟨(h.pf b q).1, fun r => r.elim (h.pf b q).2.1 (fun r => by have := (h.po.lt b q).2; omega), (h.pf b q).2.2⟩,
    fun b q => ⟨(h.qf b q).1, fun r => r.elim (h.qf b q).2 (fun r => by have := (h.qo.lt b q).2; omega)⟩, h.nd, h.bd, h.qn, h.qu⟩
theorem Wk.less {F' : Nat → Prop} (h : Wk B F w k pv qv c2 st) (c : ∀ i, F' i → F i) : Wk B F' w k pv qv c2 st :=
  ⟨h.blk, h.po, h.qo, fun q => h.fk (c _ q), fun i q => h.fb i (c i q), fun b q => ⟨(h.pf b q).1, fun r => (h.pf b q).2.1 (c b r), (h.pf b q).2.2⟩, fun b q => ⟨(h.qf b q).1, fun r => (h.qf b q).2 (c b r)⟩, h.nd, h.bd, h.qn, h.qu⟩
/-- A page is appended. -/
theorem Wk.push1 (h : Wk B F w k pv qv c2 st) {W1 w1 : World} {g cap : Nat} {p : Int} (M0 : Same w W1) (hg : W1.grownBy w1 pv.ownBlock)
    (own : w1.ownsRow B 3 1 (.slice (some ⟨g, 0, none⟩) (st.1.length + 1) cap) (st.1.length + 1) ((st.1.map fun x => .int .i64 x) ++ [.int .i64 p])) (hgb : pv.ownBlock = some g ∨ g = W1.heap.size) (hp : p ∉ st.1) (hb : 1 ≤ p ∧ p < 512) :
    Wk B F (w1.setCell ⟨k, 0, none⟩ (.slice (some ⟨g, 0, none⟩) (st.1.length + 1) cap)) k (.slice (some ⟨g, 0, none⟩) (st.1.length + 1) cap) qv c2 (st.1 ++ [p], st.2) ∧ Mod (fun i => ¬ F i) w (w1.setCell ⟨k, 0, none⟩ (.slice (some ⟨g, 0, none⟩) (st.1.length + 1) cap)) := by
  have hk := h.blk.lt
  have hks : k < W1.heap.size := Nat.lt_of_lt_of_le hk M0.size
  have M1 : Mod (fun i => pv.ownBlock = some i) w w1 := (M0.mono (fun _ _ q => q.elim)).grown hg (fun i q _ => q)
  have M2 : Mod (fun i => i = k ∨ pv.ownBlock = some i) w (w1.setCell ⟨k, 0, none⟩ (.slice (some ⟨g, 0, none⟩) (st.1.length + 1) cap)) := (M1.mono (fun _ _ q => .inr q)).setCell (fun _ => .inl rfl) _
  have hgF : g ≠ k ∧ ¬ F g ∧ qv.ownBlock ≠ some g := by
    rcases hgb with q | q
    · exact h.pf g q
    · have := M0.size
      exact ⟨by omega, fun r => by have := h.fb g r; omega, fun r => by have := (h.qo.lt g r).2; omega⟩
  have hpne : pv.ownBlock ≠ some k := fun q => (h.pf k q).1 rfl
  refine ⟨⟨(h.blk.mod M1 hpne).set 0 _, ?_, own_mod2 h.qo M2 (fun b q r => r.elim (fun r => (h.qf b q).1 r) (fun r => (h.pf b r).2.2 q)), h.fk, fun i q => Nat.lt_of_lt_of_le (h.fb i q) M2.size, fun b q => ?_, h.qf, ?_, ?_, ?_, h.qu⟩, M2.mono (fun i _ q => q.elim (fun q => by rw [q]; exact h.fk) (fun q => (h.pf i q).2.1))⟩
  · have := ownsRow_setCell_other (a := ⟨k, 0, none⟩) own (fun e => hgF.1 (by simpa [Value.ownBlock] using e)) (.slice (some ⟨g, 0, none⟩) (st.1.length + 1) cap)
    simpa using this
  · have e : g = b := by simpa [Value.ownBlock] using q
    subst e
    exact hgF
  · rw [List.nodup_append]
    exact ⟨h.nd, by simp, fun a ha b hb2 e => by simp at hb2; subst hb2; subst e; exact hp ha⟩
  · intro x hx
    rcases List.mem_append.1 hx with q | q
    · exact h.bd x q
    · simp at q; subst q; exact hb
  · have := h.qn; simp; omega
/-- Pairs are appended. -/
theorem Wk.push2 (h : Wk B F w k pv qv c2 st) {W1 w1 : World} {g cap : Nat} {L : List (Int × Int)} (M0 : Same w W1) (hg : W1.grownBy w1 qv.ownBlock)
    (own : w1.ownsRow B 123 2 (.slice (some ⟨g, 0, none⟩) (st.2.length + L.length) cap) (st.2.length + L.length) (st.2.flatMap prC ++ L.flatMap prC)) (hgb : qv.ownBlock = some g ∨ g = W1.heap.size) (hq : st.2.length + L.length ≤ 15 * st.1.length) (hu : ∀ x ∈ L, U64 x.1 ∧ U64 x.2) :
    Wk B F (w1.setCell ⟨k, 1, none⟩ (.slice (some ⟨g, 0, none⟩) (st.2.length + L.length) cap)) k pv (.slice (some ⟨g, 0, none⟩) (st.2.length + L.length) cap) c2 (st.1, st.2 ++ L) ∧ Mod (fun i => ¬ F i) w (w1.setCell ⟨k, 1, none⟩ (.slice (some ⟨g, 0, none⟩) (st.2.length + L.length) cap)) := by
  have hk := h.blk.lt
  have hks : k < W1.heap.size := Nat.lt_of_lt_of_le hk M0.size
  have M1 : Mod (fun i => qv.ownBlock = some i) w w1 := (M0.mono (fun _ _ q => q.elim)).grown hg (fun i q _ => q)
  have M2 : Mod (fun i => i = k ∨ qv.ownBlock = some i) w (w1.setCell ⟨k, 1, none⟩ (.slice (some ⟨g, 0, none⟩) (st.2.length + L.length) cap)) := (M1.mono (fun _ _ q => .inr q)).setCell (fun _ => .inl rfl) _
  have hgF : g ≠ k ∧ ¬ F g ∧ pv.ownBlock ≠ some g := by
    rcases hgb with q | q
    · exact ⟨(h.qf g q).1, (h.qf g q).2, fun r => (h.pf g r).2.2 q⟩
    · have := M0.size
      exact ⟨by omega, fun r => by have := h.fb g r; omega, fun r => by have := (h.po.lt g r).2; omega⟩
  have hpne : qv.ownBlock ≠ some k := fun q => (h.qf k q).1 rfl
  refine ⟨⟨(h.blk.mod M1 hpne).set 1 _, own_mod2 h.po M2 (fun b q r => r.elim (fun r => (h.pf b q).1 r) (fun r => (h.pf b q).2.2 r)), ?_, h.fk, fun i q => Nat.lt_of_lt_of_le (h.fb i q) M2.size, fun b q => ⟨(h.pf b q).1, (h.pf b q).2.1, fun e => ?_⟩, fun b q => ?_, h.nd, h.bd, ?_, fun x hx => (List.mem_append.1 hx).elim (h.qu x) (hu x)⟩, M2.mono (fun i _ q => q.elim (fun q => by rw [q]; exact h.fk) (fun q => (h.qf i q).2))⟩
  · have := ownsRow_setCell_other (a := ⟨k, 1, none⟩) own (fun e => hgF.1 (by simpa [Value.ownBlock] using e)) (.slice (some ⟨g, 0, none⟩) (st.2.length + L.length) cap)
    simpa using this
  · have e2 : g = b := by simpa [Value.ownBlock] using e
    subst e2
    exact hgF.2.2 q
  · have e : g = b := by simpa [Value.ownBlock] using q
    subst e
    exact ⟨hgF.1, hgF.2.1⟩
  · simp; omega
/-- The third cell is set. -/
theorem Wk.mark (h : Wk B F w k pv qv c2 st) (c3 : Value) : Wk B F (w.setCell ⟨k, 2, none⟩ c3) k pv qv c3 st ∧ Mod (fun i => ¬ F i) w (w.setCell ⟨k, 2, none⟩ c3) := by
  have M2 : Mod (fun i => i = k) w (w.setCell ⟨k, 2, none⟩ c3) := (Mod.refl (fun i => i = k) w).setCell (p := ⟨k, 2, none⟩) (fun _ => rfl) _
  exact ⟨⟨h.blk.set 2 c3, own_mod2 h.po M2 (fun b q r => (h.pf b q).1 r), own_mod2 h.qo M2 (fun b q r => (h.qf b q).1 r), h.fk, fun i q => Nat.lt_of_lt_of_le (h.fb i q) M2.size, h.pf, h.qf, h.nd, h.bd, h.qn, h.qu⟩, M2.mono (fun i _ q => by rw [q]; exact h.fk)⟩
/-- What turns block k alone, and leaves in it a third cell of its own. -/
theorem Wk.marked (h : Wk B F w k pv qv c2 st) {c3 : Value} (b : Blk w' k #[pv, qv, c3]) (M2 : Mod (fun i => i = k) w w') : Wk B F w' k pv qv c3 st ∧ Mod (fun i => ¬ F i) w w' :=
  ⟨⟨b, own_mod2 h.po M2 (fun b q r => (h.pf b q).1 r), own_mod2 h.qo M2 (fun b q r => (h.qf b q).1 r), h.fk, fun i q => Nat.lt_of_lt_of_le (h.fb i q) M2.size, h.pf, h.qf, h.nd, h.bd, h.qn, h.qu⟩, M2.mono (fun i _ q => by rw [q]; exact h.fk)⟩
end
theorem nodup_len : ∀ (n : Nat) (l : List Int), l.Nodup → (∀ x ∈ l, 1 ≤ x ∧ x ≤ n) → l.length ≤ n
  | 0, l, _, h => by
    cases l with
    | nil => simp
    | cons x l => have := h x (by simp); omega
  | n + 1, l, hn, h => by
    by_cases q : ((n + 1 : Nat) : Int) ∈ l
    · have h1 := nodup_len n (l.erase ((n + 1 : Nat) : Int)) (hn.erase _) (fun x hx => by
        have hx2 := (List.Nodup.mem_erase_iff hn).1 hx
        have := h x hx2.2
        have hne := hx2.1
        omega)
      rw [List.length_erase_of_mem q] at h1
      omega
    · have h1 := nodup_len n l hn (fun x hx => by
        have := h x hx
        have hne : x ≠ ((n + 1 : Nat) : Int) := fun e => q (e ▸ hx)
        omega)
      omega
theorem Wk.short {B : Nat} {F : Nat → Prop} {w : World} {k : Nat} {pv qv c2 : Value} {st : WSt} (h : Wk B F w k pv qv c2 st) : st.1.length ≤ 511 := nodup_len 511 _ h.nd (fun x hx => by have := h.bd x hx; omega)
theorem ins_own {w : World} {base : Nat} {ty : TypeId} {v : Value} {L : List Int} (h : w.ownsRow base ty 1 v L.length (L.map fun x => .int .i64 x)) : ∃ a c, v = .slice a L.length c ∧ Ins w a L := by
  by_cases hp : 0 < L.length
  · obtain ⟨g, cap, hv, hb, hc, hr⟩ := RowV.of_owns h hp
    refine ⟨some ⟨g, 0, none⟩, cap, hv, fun _ => ⟨g, 0, rfl, hr.lt, fun i x h1 => ?_⟩⟩
    have hi : i < L.length := (List.getElem?_eq_some_iff.1 h1).1
    rw [Nat.zero_add]
    refine (hr.cell i (by omega)).trans ?_
    rw [List.getD_eq_getElem?_getD, List.getElem?_map, h1]; rfl
  · obtain ⟨a, c, hs⟩ := owns_slice h
    exact ⟨a, c, hs, fun q => absurd q hp⟩
end Go.Proofs.YtjkndfenniongaaGreatDoor
set_option maxRecDepth 100000
/- A node, and all below: what stands when it has failed; the plain steps. -/
namespace Go.Proofs.YtjkndfenniongaaGreatDoor
open Go Go.RowKit
def NodeP (B : Nat) (F : Nat → Prop) (w : World) (k : Nat) : Option WSt → Prop
  | none => ∃ pv qv st, Wk B F w k pv qv (.int .i64 3) st
  | some st => ∃ pv qv, Wk B F w k pv qv (.int .i64 0) st
theorem nodeE_form (S : List (List UInt8)) (p lvl : Int) : (∃ er : Int, nodeE S p lvl = (er, none) ∧ (er = 3 ∨ er = 9)) ∨ (∃ lv L, nodeE S p lvl = (0, some (lv, L)) ∧ (1 ≤ p ∧ p < 512) ∧ goodL lv L = true ∧ L.length ≠ 0 ∧ (0 ≤ lvl → lv = lvl)) := by
  unfold nodeE
  by_cases h1 : 1 ≤ p ∧ p < ((min (S.length / 16) 512 : Nat) : Int)
  · rw [if_pos h1]
    cases hl : leafP (pageS S p.toNat) with
    | none => exact .inl ⟨3, rfl, .inl rfl⟩
    | some q =>
      obtain ⟨lv, L⟩ := q
      dsimp only
      by_cases h2 : L.length = 0 ∨ (0 ≤ lvl ∧ lv ≠ lvl)
      · rw [if_pos h2]; exact .inl ⟨3, rfl, .inl rfl⟩
      · rw [if_neg h2]
        exact .inr ⟨lv, L, rfl, ⟨h1.1, by omega⟩, leafP_good hl, fun q => h2 (.inl q), fun q => Classical.byContradiction fun r => h2 (.inr ⟨q, r⟩)⟩
  · rw [if_neg h1]; exact .inl ⟨9, rfl, .inr rfl⟩
theorem good_vals {lv : Int} {L : List (Int × Int)} (h : goodL lv L = true) (hl : 0 < lv) : ∀ x ∈ L, 1 ≤ x.2 ∧ x.2 < 512 := by
  intro x hx
  unfold goodL at h
  simp only [Bool.and_eq_true, Bool.or_eq_true, decide_eq_true_eq] at h
  rcases h.2 with q | ⟨_, q⟩
  · omega
  · unfold farL at q
    simp only [Bool.not_eq_true', List.any_eq_false, Bool.or_eq_true, decide_eq_true_eq, not_or] at q
    have := q x hx
    omega
theorem nodeE_leaf {S : List (List UInt8)} {p lvl lv : Int} {L : List (Int × Int)} {er : Int} (h : nodeE S p lvl = (er, some (lv, L))) : (1 ≤ p ∧ p < ((min (S.length / 16) 512 : Nat) : Int)) ∧ leafP (pageS S p.toNat) = some (lv, L) := by
  unfold nodeE at h
  split at h
  · rename_i hp
    split at h
    · cases h
    · rename_i lv' L' hl
      split at h
      · cases h
      · cases h; exact ⟨hp, hl⟩
  · cases h
theorem leV_u64 (l : List UInt8) : U64 (leV (l.take 8)) := by
  have h1 := leV_bd (l.take 8)
  have h2 : (256 : Int) ^ (l.take 8).length ≤ 256 ^ 8 := by exact_mod_cast Nat.pow_le_pow_right (by decide) (by simp; omega)
  unfold U64
  have h3 : (256 : Int) ^ 8 = 18446744073709551616 := by decide
  omega
theorem leafP_u64 {l : List UInt8} {lv : Int} {L : List (Int × Int)} (h : leafP l = some (lv, L)) : ∀ x ∈ L, U64 x.1 ∧ U64 x.2 := by
  unfold leafP at h
  split at h
  · cases h
  · split at h
    · cases h
      intro x hx
      unfold lfL prsK at hx
      obtain ⟨i, _, rfl⟩ := List.mem_map.1 hx
      unfold prK
      exact ⟨leV_u64 _, leV_u64 _⟩
    · cases h
section
variable (S : List (List UInt8)) (n : Nat) (p lvl fi hi : Int) (isSub isEnd : Bool) (st : WSt)
theorem nodeW_none {er : Int} (h : nodeE S p lvl = (er, none)) : nodeW S (n + 1) p lvl fi isSub hi isEnd st = none := by
  simp only [nodeW, h]
theorem nodeW_cut {lv : Int} {L : List (Int × Int)} (h : nodeE S p lvl = (0, some (lv, L))) (c : st.1.contains p = true ∨ rightP fi isSub hi isEnd lv (L.getD 0 (0, 0)) (L.getD (L.length - 1) (0, 0)) L.length = false) : nodeW S (n + 1) p lvl fi isSub hi isEnd st = none := by
  simp only [nodeW, h]
  rw [if_pos (by rcases c with q | q
                 · rw [q]; rfl
                 · rw [q]; simp)]
theorem nodeW_leaf {lv : Int} {L : List (Int × Int)} (h : nodeE S p lvl = (0, some (lv, L))) (c : st.1.contains p = false) (c2 : rightP fi isSub hi isEnd lv (L.getD 0 (0, 0)) (L.getD (L.length - 1) (0, 0)) L.length = true) (h0 : lv = 0) : nodeW S (n + 1) p lvl fi isSub hi isEnd st = some (st.1 ++ [p], st.2 ++ L) := by
  simp only [nodeW, h]
  rw [if_neg (by rw [c, c2]; decide), if_pos h0]
theorem nodeW_kids {lv : Int} {L : List (Int × Int)} (h : nodeE S p lvl = (0, some (lv, L))) (c : st.1.contains p = false) (c2 : rightP fi isSub hi isEnd lv (L.getD 0 (0, 0)) (L.getD (L.length - 1) (0, 0)) L.length = true) (h0 : lv ≠ 0) : nodeW S (n + 1) p lvl fi isSub hi isEnd st = kidsW (fun x h e st => nodeW S n x.2 (lv - 1) x.1 true h e st) hi isEnd L (st.1 ++ [p], st.2) := by
  simp only [nodeW, h]
  rw [if_neg (by rw [c, c2]; decide), if_neg h0]
end
theorem node_bad (a1 a2 a3 a4 a5 a6 a7 : Value) (k : Nat) (pv qv : Value) (w : World) (h : Blk w k #[pv, qv, .int .i64 3]) : Calls Tryz.prog 56 #[bp k, a1, a2, a3, .agg #[a4, a5, a6, a7]] w fun e w' => e = .returned (.tuple #[]) ∧ Same w w' := by
  refine opq fun R HR => ?_
  have e2 := (h.alloc (.cells #[a4, a5, a6, a7] 140)).at_ (i := 2) _ rfl
  have M := Lib.hid (show Same w (w.alloc (.cells #[a4, a5, a6, a7] 140)) from (Mod.refl _ _).alloc _)
  clear h
  go_enter Tryz.func56, Tryz.ntmps56
  go_wp2
  exact bodyPost_ret (v := .tuple #[]) (by simp [results, Tryz.results56, go_sem]) rfl (HR.out _ _ ⟨rfl, M.out⟩)
end Go.Proofs.YtjkndfenniongaaGreatDoor
set_option maxRecDepth 100000
/- A node, and all below: the walk. -/
namespace Go.Proofs.YtjkndfenniongaaGreatDoor
open Go Go.RowKit
theorem one_i64 (w : World) (x : Int) (t : TypeId) : ∀ j u, ([.int .i64 x] : List Value)[j]? = some u → (w.alloc (.cells #[.int .i64 x] t)).cell? (Addr.add ⟨w.heap.size, 0, none⟩ j) = some u := one_new w (.int .i64 x) t
theorem i64_cell (x : Int) : ∀ u ∈ ([.int .i64 x] : List Value), u.oneCell' = true := fun u hu => by simp at hu; subst hu; rfl
theorem flat_cells (L : List (Int × Int)) : ∀ u ∈ L.flatMap prC, u.oneCell' = true := fun u hu => by
  obtain ⟨x, _, hx⟩ := List.mem_flatMap.1 hu
  unfold prC at hx
  simp at hx
  rcases hx with rfl | rfl <;> rfl
theorem flat_at {w : World} {b o : Nat} {L : List (Int × Int)} (h : ∀ (i : Nat) (p : Int × Int), L[i]? = some p → w.cell? ⟨b, o + i * 2, none⟩ = some (.int .u64 p.1) ∧ w.cell? ⟨b, o + i * 2 + 1, none⟩ = some (.int .u64 p.2)) : ∀ j u, (L.flatMap prC)[j]? = some u → w.cell? (Addr.add ⟨b, o, none⟩ j) = some u := by
  intro j u hu
  have hadd : (⟨b, o, none⟩ : Addr).add j = ⟨b, o + j, none⟩ := by unfold Addr.add; split <;> simp_all
  rw [hadd]
  have hj : j < L.length * 2 := by have := (List.getElem?_eq_some_iff.1 hu).1; rwa [pr_flat_len] at this
  have hx : L[j / 2]? = some L[j / 2] := List.getElem?_eq_getElem (by omega)
  have hg := pr_flat_get L (j / 2) (j % 2) _ hx (Nat.mod_lt _ (by decide))
  rw [show j / 2 * 2 + j % 2 = j by omega, hu] at hg
  obtain ⟨h1, h2⟩ := h _ _ hx
  rcases (show j % 2 = 0 ∨ j % 2 = 1 by omega) with e | e
  · rw [e] at hg
    rw [show o + j = o + j / 2 * 2 by omega, h1]
    simpa [prC] using hg.symm
  · rw [e] at hg
    rw [show o + j = o + j / 2 * 2 + 1 by omega, h2]
    simpa [prC] using hg.symm
theorem info3 : (Tryz.prog.info? 3).map (fun i => (i.zero, i.size, i.bytes)) = some (some (.int .i64 0), 1, 8) := by kernel_rfl
theorem info123' : (Tryz.prog.info? 123).map (fun i => (i.zero, i.size, i.bytes)) = some (some (.agg #[.int .u64 0, .int .u64 0]), 2, 16) := by kernel_rfl
def Alt (B : Nat) (F : Nat → Prop) (k : Nat) (f : Int × Int → Int → Bool → WSt → Option WSt) (hi : Int) (isEnd : Bool) (R : List (Int × Int)) (res : Option WSt) (w : World) : Prop :=
  (∃ pv qv st, Wk B F w k pv qv (.int .i64 0) st ∧ kidsW f hi isEnd R st = res) ∨ (res = none ∧ ∃ pv qv st, Wk B F w k pv qv (.int .i64 3) st)
theorem Alt.done {B : Nat} {F F' : Nat → Prop} {k : Nat} {f : Int × Int → Int → Bool → WSt → Option WSt} {hi : Int} {isEnd : Bool} {res : Option WSt} {w : World} (h : Alt B F k f hi isEnd [] res w) (c : ∀ i, F' i → F i) : NodeP B F' w k res := by
  rcases h with ⟨pv, qv, st, hw, he⟩ | ⟨he, pv, qv, st, hw⟩
  · simp only [kidsW] at he
    subst he
    exact ⟨pv, qv, hw.less c⟩
  · subst he
    exact ⟨pv, qv, st, hw.less c⟩
theorem Alt.last {B : Nat} {F : Nat → Prop} {k : Nat} {f : Int × Int → Int → Bool → WSt → Option WSt} {hi : Int} {isEnd : Bool} {res : Option WSt} {w : World} {x : Int × Int} {st : WSt} (h : NodeP B F w k (f x hi isEnd st)) (he : kidsW f hi isEnd [x] st = res) : Alt B F k f hi isEnd [] res w := by
  simp only [kidsW] at he
  rw [he] at h
  cases res with
  | none => obtain ⟨pv, qv, st, hw⟩ := h; exact .inr ⟨rfl, pv, qv, st, hw⟩
  | some st' => obtain ⟨pv, qv, hw⟩ := h; exact .inl ⟨pv, qv, st', hw, rfl⟩
theorem Alt.mid {B : Nat} {F : Nat → Prop} {k : Nat} {f : Int × Int → Int → Bool → WSt → Option WSt} {hi : Int} {isEnd : Bool} {res : Option WSt} {w : World} {x y : Int × Int} {r : List (Int × Int)} {st : WSt} (h : NodeP B F w k (f x y.1 true st)) (he : kidsW f hi isEnd (x :: y :: r) st = res) : Alt B F k f hi isEnd (y :: r) res w := by
  simp only [kidsW] at he
  cases hf : f x y.1 true st with
  | none =>
    rw [hf] at h he
    obtain ⟨pv, qv, st, hw⟩ := h
    exact .inr ⟨he.symm, pv, qv, st, hw⟩
  | some st' =>
    rw [hf] at h he
    obtain ⟨pv, qv, hw⟩ := h
    exact .inl ⟨pv, qv, st', hw, he⟩
def I64 (x : Int) : Prop := -9223372036854775808 ≤ x ∧ x ≤ 9223372036854775807
set_option maxHeartbeats 16000000 in
theorem node_step {B0 B2 : Nat} {w0 : World} {s d kb fb m lb : Nat} {h : Hd} {at_ u : Int} {S : List (List UInt8)} (T : Sto B0 w0 s d kb fb h at_) (HD : Dev B2 w0 d m lb u S (.map [])) (hS : ∀ s ∈ S, s.length = 16) (k n : Nat)
    (ih : ∀ (p lvl fi hi : Int) (isSub isEnd : Bool) (st : WSt) (F : Nat → Prop) (w : World) (pv qv : Value), I64 p → -1 ≤ lvl → lvl < n → (lvl < 0 → 9 ≤ n) → Same w0 w → (∀ i, i < w0.heap.size → F i) → Wk w0.heap.size F w k pv qv (.int .i64 0) st →
      Calls Tryz.prog 56 #[bp k, .iface 42 (bp s), .int .i64 p, .int .i64 lvl, .agg #[.int .u64 fi, .bool isSub, .int .u64 hi, .bool isEnd]] w fun e w' => e = .returned (.tuple #[]) ∧ Mod (fun i => ¬ F i) w w' ∧ NodeP w0.heap.size F w' k (nodeW S n p lvl fi isSub hi isEnd st))
    (p lvl fi hi : Int) (isSub isEnd : Bool) (st : WSt) (F : Nat → Prop) (w : World) (pv qv : Value) (hp : I64 p) (hl1 : -1 ≤ lvl) (hl2 : lvl < n + 1) (hl3 : lvl < 0 → 9 ≤ n + 1) (M0 : Same w0 w) (hF : ∀ i, i < w0.heap.size → F i) (K0 : Wk w0.heap.size F w k pv qv (.int .i64 0) st) :
      Calls Tryz.prog 56 #[bp k, .iface 42 (bp s), .int .i64 p, .int .i64 lvl, .agg #[.int .u64 fi, .bool isSub, .int .u64 hi, .bool isEnd]] w fun e w' => e = .returned (.tuple #[]) ∧ Mod (fun i => ¬ F i) w w' ∧ NodeP w0.heap.size F w' k (nodeW S (n + 1) p lvl fi isSub hi isEnd st) := by
  refine opq fun R HR => ?_
  have IH := Lib.hid ih
  have HFl := Lib.hid hF
  clear ih hF
  have MA := Lib.hid (show Same w (w.alloc (.cells #[.int .u64 fi, .bool isSub, .int .u64 hi, .bool isEnd] 140)) from (Mod.refl _ _).alloc _)
  have KA := Lib.hid (K0.more MA.out)
  have XA := Lib.hid (Blk.new w #[.int .u64 fi, .bool isSub, .int .u64 hi, .bool isEnd] 140)
  have HT := Lib.hid (tread_any (T.same (M0.same MA.out)) (HD.same (M0.same MA.out)) hS p hp lvl)
  have N0 := Lib.hid M0
  have KO := Lib.hid K0
  clear M0 K0 T HD
  go_enter Tryz.func56, Tryz.ntmps56
  have hAlt := XA.out.lt
  have e2 := KA.out.blk.at_ (i := 2) _ rfl
  go_wp2_with fail
  generalize w.alloc _ = WA at *
  refine HT.out.mono ?_
  rintro e w2 ⟨htr, M⟩
  have M2 := Lib.hid (MA.out.same M)
  have K2 := Lib.hid (KO.out.more M2.out)
  have X2 := Lib.hid (XA.out.mod M (fun q => q))
  clear M KA HT MA e2
  unfold TRead at htr
  rcases nodeE_form S p lvl with ⟨er, hne, her⟩ | ⟨lv, L, hne, hpb, hg, hL0, hlv⟩
  · rw [hne] at htr
    dsimp only at htr
    subst htr
    have HE := Lib.hid (nodeW_none S n p lvl fi hi isSub isEnd st hne)
    rw [HE.out] at HR
    have M3 := Lib.hid (M2.out.alloc (.cells #[.int .i64 0, .slice none 0 0] 75))
    have K3 := Lib.hid (KO.out.same M3.out)
    have HFa := Lib.hid (fail_any k pv qv 3 _ K3.out.blk)
    rcases her with rfl | rfl
    all_goals
      go_wp2_with fail
      refine HFa.out.mono ?_
      rintro e w4 ⟨rfl, hb, M⟩
      have KM := Lib.hid (K3.out.marked hb M)
      clear hb M
      go_wp2
      exact bodyPost_ret (v := .tuple #[]) (by simp [results, Tryz.results56, go_sem]) rfl (HR.out _ _ ⟨rfl, (M3.out.mono (fun _ _ q => q.elim)).then_ KM.out.2 (fun _ _ q => q), ⟨_, _, _, KM.out.1⟩⟩)
  · rw [hne] at htr
    dsimp only at htr
    obtain ⟨a, c, rfl, hP, hab⟩ := htr
    obtain ⟨b, o, rfl, hb, hc⟩ := hP (by omega)
    have hab2 : WA.heap.size < b := hab b o rfl
    have hgl := good_len hg
    have HUu := Lib.hid (leafP_u64 (nodeE_leaf hne).2)
    obtain ⟨x0, hx0⟩ : ∃ x, L[0]? = some x := ⟨_, List.getElem?_eq_getElem (by omega)⟩
    obtain ⟨y0, hy0⟩ : ∃ y, L[L.length - 1]? = some y := ⟨_, List.getElem?_eq_getElem (by omega)⟩
    have gx : L.getD 0 (0, 0) = x0 := by rw [List.getD_eq_getElem?_getD, hx0]; rfl
    have gy : L.getD (L.length - 1) (0, 0) = y0 := by rw [List.getD_eq_getElem?_getD, hy0]; rfl
    obtain ⟨pa, pc, rfl, hpi⟩ := ins_own KO.out.po
    have hshort := KO.out.short
    have hqn := KO.out.qn
    have HVals := Lib.hid (good_vals hg)
    obtain ⟨nl, hnl⟩ : ∃ z, L.length = z := ⟨_, rfl⟩
    have HNL := Lib.hid hnl
    have M3 := Lib.hid (M2.out.alloc (.cells #[.int .i64 lv, .slice (some ⟨b, o, none⟩) nl c] 75))
    have X3 := Lib.hid (X2.out.alloc (.cells #[.int .i64 lv, .slice (some ⟨b, o, none⟩) nl c] 75))
    have Y3 := Lib.hid (Blk.new w2 #[.int .i64 lv, .slice (some ⟨b, o, none⟩) nl c] 75)
    have hP3 : Prs (w2.alloc (.cells #[.int .i64 lv, .slice (some ⟨b, o, none⟩) nl c] 75)) (some ⟨b, o, none⟩) L := hP.same ((Mod.refl (fun _ => False) w2).alloc _)
    have P3 := Lib.hid hP3
    have hw2s : w.heap.size < w2.heap.size := X2.out.lt
    have hAsz : WA.heap.size ≤ w2.heap.size := by omega
    have HCt := Lib.hid (contains_any pa pc st.1 p _ (by omega) (hpi.same M3.out))
    have HRt := Lib.hid (right_any fi isSub hi isEnd lv (some ⟨b, o, none⟩) c L x0 y0 hx0 hy0 _ (by omega) P3.out)
    have Hcut := Lib.hid (nodeW_cut S n p lvl fi hi isSub isEnd st hne)
    have Hleaf := Lib.hid (nodeW_leaf S n p lvl fi hi isSub isEnd st hne)
    have Hkids := Lib.hid (nodeW_kids S n p lvl fi hi isSub isEnd st hne)
    have HX0 := Lib.hid hx0
    rw [gx, gy] at Hcut Hleaf Hkids
    rw [hnl] at Hcut Hleaf Hkids HRt hgl hL0 ⊢
    have K3 := Lib.hid (KO.out.same M3.out)
    clear hP hP3 hc hab hx0 hy0 gx gy hpi X2 hnl hne
    have x30 := X3.out.at_ (i := 0) _ rfl
    have x31 := X3.out.at_ (i := 1) _ rfl
    have x32 := X3.out.at_ (i := 2) _ rfl
    have x33 := X3.out.at_ (i := 3) _ rfl
    have y30 := Y3.out.at_ (i := 0) _ rfl
    have y31 := Y3.out.at_ (i := 1) _ rfl
    have k30 := K3.out.blk.at_ (i := 0) _ rfl
    have hw3s := Y3.out.lt
    have HFa := Lib.hid (fun w' (M : Same (w2.alloc (.cells #[.int .i64 lv, .slice (some ⟨b, o, none⟩) nl c] 75)) w') => fail_any k _ _ 3 w' (K3.out.same M).blk)
    go_wp2_with fail
    generalize w2.alloc _ = w3 at *
    refine HCt.out.mono ?_
    rintro e w4 ⟨rfl, rfl⟩
    cases hct : st.1.contains p with
    | true =>
      rw [Hcut.out (.inl hct)] at HR
      go_wp2_with fail
      refine (HFa.out _ (Mod.refl _ _)).mono ?_
      rintro e w5 ⟨rfl, hb5, M⟩
      have KM := Lib.hid (K3.out.marked hb5 M)
      clear hb5 M
      go_wp2
      exact bodyPost_ret (v := .tuple #[]) (by simp [results, Tryz.results56, go_sem]) rfl (HR.out _ _ ⟨rfl, (M3.out.mono (fun _ _ q => q.elim)).then_ KM.out.2 (fun _ _ q => q), ⟨_, _, _, KM.out.1⟩⟩)
    | false =>
      go_wp2_with fail
      refine HRt.out.mono ?_
      rintro e w5 ⟨rfl, M⟩
      cases hrt : rightP fi isSub hi isEnd lv x0 y0 nl with
      | false =>
        rw [Hcut.out (.inr hrt)] at HR
        have M4 := Lib.hid (M3.out.same M)
        have K4 := Lib.hid (K3.out.same M)
        go_wp2_with fail
        refine (HFa.out _ M).mono ?_
        rintro e w6 ⟨rfl, hb5, M'⟩
        have KM := Lib.hid (K4.out.marked hb5 M')
        clear hb5 M'
        go_wp2
        exact bodyPost_ret (v := .tuple #[]) (by simp [results, Tryz.results56, go_sem]) rfl (HR.out _ _ ⟨rfl, (M4.out.mono (fun _ _ q => q.elim)).then_ KM.out.2 (fun _ _ q => q), ⟨_, _, _, KM.out.1⟩⟩)
      | true =>
        have M4 := Lib.hid (M3.out.same M)
        have K4 := Lib.hid (KO.out.more M4.out)
        have X4 := Lib.hid (X3.out.mod M (fun q => q))
        have Y4 := Lib.hid (Y3.out.mod M (fun q => q))
        have hc4 : ∀ (i : Nat) (p : Int × Int), L[i]? = some p → w5.cell? ⟨b, o + i * 2, none⟩ = some (.int .u64 p.1) ∧ w5.cell? ⟨b, o + i * 2 + 1, none⟩ = some (.int .u64 p.2) := by
          obtain ⟨b', o', e, _, hc⟩ := P3.out.same M (by rw [HNL.out]; omega)
          cases e
          exact hc
        have HC4 := Lib.hid hc4
        have hw5 : w4.heap.size ≤ w5.heap.size := M.size
        obtain ⟨i3, hi3, hz30, hz31, hz32⟩ := info_parts info3
        have I3 := Lib.hid hi3
        have Z30 := Lib.hid hz30
        have Z31 := Lib.hid hz31
        have Z32 := Lib.hid hz32
        have hpn : p ∉ st.1 := by simpa using hct
        have hw0 : w0.heap.size ≤ w5.heap.size := (N0.out.same M4.out).size
        clear hi3 hz30 hz31 hz32 M K3 X3 Y3 P3 M3 HCt HRt HFa hc4 x30 x31 x32 x33 y30 y31 k30 M2 K2 KO
        have hsl : st.1.length + 1 ≤ 512 := by omega
        have k40 := K4.out.blk.at_ (i := 0) _ rfl
        by_cases h0 : lv = 0
        · rw [Hleaf.out hct hrt h0] at HR
          subst h0
          clear Hcut Hleaf Hkids hrt hct
          go_wp2_with (at_builtin; refine wpList_append_lies _ rfl (.tmp 57) (.tmp 59) 32 rfl w0.heap.size 3 i3 (.int .i64 0) 1 8 Tryz.underlying32 I3.out Z30.out Z31.out Z32.out rfl (by decide) _ _ _ rfl (K4.out.po.alloc _) ⟨w5.heap.size, 0, none⟩ 1 1 [.int .i64 p] rfl rfl (one_i64 w5 p 3) (i64_cell p) (by decide) (by unfold maxLen; omega) (by omega) (by simp only [World.size_alloc]; omega) (w5.heap.size + 1) (by simp) ?_; intro g cap w6 hown6 hgrow hgb hglt; have B6 := blk_grown (K4.out.blk.alloc _) hgrow (fun q => (K4.out.pf k q).1 rfl); have e60 := B6.at_ (i := 0) _ rfl; have f60 := B6.free 0; have PU := Lib.hid (K4.out.push1 ((Mod.refl (fun _ => False) w5).alloc (.cells #[.int .i64 p] 3)) hgrow hown6 (hgb.imp id (fun q => by rw [q]; simp)) hpn hpb); have Y6 := Lib.hid (Y4.out.mod PU.out.2 (fun q => q (.inr ⟨by omega, by omega⟩))); have y60 := Y6.out.at_ (i := 0) _ rfl; have PB := Lib.hid PU.out.2.size; clear B6 hown6 hgrow hgb hglt)
          clear e60 f60 y60 k40
          generalize World.setCell _ _ _ = w7 at *
          have k71 := PU.out.1.blk.at_ (i := 1) _ rfl
          have f71 := PU.out.1.blk.free 1
          have y71 := Y6.out.at_ (i := 1) _ rfl
          have hw7 : w5.heap.size ≤ w7.heap.size := PB.out
          have HC7 := Lib.hid (fun (i : Nat) (p : Int × Int) (hx : L[i]? = some p) => And.intro ((PU.out.2.cell (b := b) (by omega) (fun q => q (.inr ⟨by omega, by omega⟩)) _).trans (HC4.out i p hx).1) ((PU.out.2.cell (b := b) (by omega) (fun q => q (.inr ⟨by omega, by omega⟩)) _).trans (HC4.out i p hx).2))
          obtain ⟨i123, hi, hz0, hz1, hz2⟩ := info_parts info123'
          have I0 := Lib.hid hi
          have Z0 := Lib.hid hz0
          have Z1 := Lib.hid hz1
          have Z2 := Lib.hid hz2
          clear hi hz0 hz1 hz2
          go_region_law (refine step_append_lies _ rfl (.tmp 70) (.tmp 72) 68 rfl w0.heap.size 123 i123 (.agg #[.int .u64 0, .int .u64 0]) 2 16 Tryz.underlying68 I0.out Z0.out Z1.out Z2.out rfl (by decide) qv st.2.length _ (by simp [Act.eval, Act.put]) (own_drew PU.out.1.qo) ⟨b, o, none⟩ nl c (L.flatMap prC) (by simp [Act.eval, Act.put]) (by rw [pr_flat_len, HNL.out]) (flat_at HC7.out) (flat_cells L) (by omega) (by unfold maxLen; omega) (by omega) (by simp; omega) w7.heap.size (by simp) ?_; intro g2 cap2 w8 hown8 hgrow8 hgb8 hgl8; rw [← HNL.out] at hown8; have PV := Lib.hid (PU.out.1.push2 (Mod.refl (fun _ => False) w7).drew hgrow8 hown8 hgb8 (by rw [HNL.out]; simp; omega) HUu.out); rw [HNL.out] at PV; have B8 := blk_grown PU.out.1.blk.drew hgrow8 (fun q => (PU.out.1.qf k q).1 rfl); have e81 := B8.at_ (i := 1) _ rfl; have f81 := B8.free 1; clear B8 hown8 hgrow8 hgb8 hgl8)
          all_goals
            clear e81 f81
            go_wp2_with fail
            generalize World.setCell _ _ _ = w9 at *
            exact bodyPost_ret (v := .tuple #[]) (by simp [results, Tryz.results56, go_sem]) rfl (HR.out _ _ ⟨rfl, (M4.out.mono (fun _ _ q => q.elim)).then_ (PU.out.2.then_ PV.out.2 (fun _ _ q => q)) (fun i hi q r => q (.inl r)), ⟨_, _, PV.out.1.less (fun i q => .inl q)⟩⟩)
        · rw [Hkids.out hct hrt h0] at HR
          have hlv0 : (lv == 0) = false := beq_eq_false_iff_ne.2 h0
          have hlv1 : 0 < lv := by omega
          have HV := Lib.hid (HVals.out hlv1)
          clear Hcut Hleaf Hkids hrt hct h0 HVals
          go_wp2_with (at_builtin; refine wpList_append_lies _ rfl (.tmp 57) (.tmp 59) 32 rfl w0.heap.size 3 i3 (.int .i64 0) 1 8 Tryz.underlying32 I3.out Z30.out Z31.out Z32.out rfl (by decide) _ _ _ rfl (K4.out.po.alloc _) ⟨w5.heap.size, 0, none⟩ 1 1 [.int .i64 p] rfl rfl (one_i64 w5 p 3) (i64_cell p) (by decide) (by unfold maxLen; omega) (by omega) (by simp only [World.size_alloc]; omega) (w5.heap.size + 1) (by simp) ?_; intro g cap w6 hown6 hgrow hgb hglt; have B6 := blk_grown (K4.out.blk.alloc _) hgrow (fun q => (K4.out.pf k q).1 rfl); have e60 := B6.at_ (i := 0) _ rfl; have f60 := B6.free 0; have PU := Lib.hid (K4.out.push1 ((Mod.refl (fun _ => False) w5).alloc (.cells #[.int .i64 p] 3)) hgrow hown6 (hgb.imp id (fun q => by rw [q]; simp)) hpn hpb); have Y6 := Lib.hid (Y4.out.mod PU.out.2 (fun q => q (.inr ⟨by omega, by omega⟩))); have y60 := Y6.out.at_ (i := 0) _ rfl; have y61 := Y6.out.at_ (i := 1) _ rfl; have PB := Lib.hid PU.out.2.size; clear B6 hown6 hgrow hgb hglt)
          clear e60 f60 y60 k40 y61
          generalize World.setCell _ _ _ = w7 at *
          have hw7 : w5.heap.size ≤ w7.heap.size := PB.out
          have RES := Lib.hid (rfl : kidsW (fun x h e st => nodeW S n x.2 (lv - 1) x.1 true h e st) hi isEnd L (st.1 ++ [p], st.2) = kidsW (fun x h e st => nodeW S n x.2 (lv - 1) x.1 true h e st) hi isEnd L (st.1 ++ [p], st.2))
          generalize hres : kidsW (fun x h e st => nodeW S n x.2 (lv - 1) x.1 true h e st) hi isEnd L (st.1 ++ [p], st.2) = res at HR
          have HRes := Lib.hid hres
          clear hres RES
          go_loopw [79] (fun vi wr => ∃ i : Nat, i ≤ nl ∧ vi = .int .i64 (i : Int) ∧ Mod (fun j => ¬ (F j ∨ (w.heap.size ≤ j ∧ j < w5.heap.size))) w7 wr ∧ Alt w0.heap.size (fun j => F j ∨ (w.heap.size ≤ j ∧ j < w5.heap.size)) k (fun x h e st => nodeW S n x.2 (lv - 1) x.1 true h e st) hi isEnd (L.drop i) res wr) (fun vi _ => nl - (intOf vi).toNat)
          case atStart => exact ⟨0, by omega, rfl, Mod.refl _ _, .inl ⟨_, _, _, PU.out.1, HRes.out⟩⟩
          case round =>
            obtain ⟨i, hi0, rfl, hMr, hAlt2⟩ := hrel
            have MR := Lib.hid hMr
            have AR := Lib.hid hAlt2
            have MW := Lib.hid (PU.out.2.then_ hMr (fun _ _ q => q))
            clear hMr hAlt2
            by_cases hlt : i < nl
            · obtain ⟨x, hx⟩ : ∃ x, L[i]? = some x := ⟨_, List.getElem?_eq_getElem (by rw [HNL.out]; exact hlt)⟩
              have hxv := HV.out x (List.mem_of_getElem? hx)
              have hdx : L.drop i = x :: L.drop (i + 1) := by
                have := List.drop_eq_getElem_cons (l := L) (i := i) (by rw [HNL.out]; exact hlt)
                rw [this]
                congr 1
                exact (List.getElem?_eq_some_iff.1 hx).2
              have x42 := (X4.out.mod MW.out (fun q => q (.inr ⟨Nat.le_refl _, by omega⟩))).at_ (i := 2) _ rfl
              have x43 := (X4.out.mod MW.out (fun q => q (.inr ⟨Nat.le_refl _, by omega⟩))).at_ (i := 3) _ rfl
              have y40 := (Y4.out.mod MW.out (fun q => q (.inr ⟨by omega, by omega⟩))).at_ (i := 0) _ rfl
              have y41 := (Y4.out.mod MW.out (fun q => q (.inr ⟨by omega, by omega⟩))).at_ (i := 1) _ rfl
              have hwr : w7.heap.size ≤ wr.heap.size := MR.out.size
              have hb1 : w.heap.size < wr.heap.size := by omega
              have hb2 : w2.heap.size < wr.heap.size := by omega
              have hb3 : b < wr.heap.size := by omega
              have c0 := (MW.out.cell (b := b) (by omega) (fun q => q (.inr ⟨by omega, by omega⟩)) _).trans (HC4.out i x hx).1
              have c1 := (MW.out.cell (b := b) (by omega) (fun q => q (.inr ⟨by omega, by omega⟩)) _).trans (HC4.out i x hx).2
              have key : ∃ Nx : Int → Bool → World → Prop, (∀ hh ee W', Same wr W' → Calls Tryz.prog 56 #[bp k, .iface 42 (bp s), .int .i64 x.2, .int .i64 (lv - 1), .agg #[.int .u64 x.1, .bool true, .int .u64 hh, .bool ee]] W' fun e w'' => e = .returned (.tuple #[]) ∧ Mod (fun j => ¬ (F j ∨ (w.heap.size ≤ j ∧ j < w5.heap.size))) W' w'' ∧ Nx hh ee w'') ∧
                  (∀ w'', L.drop (i + 1) = [] → Nx hi isEnd w'' → Alt w0.heap.size (fun j => F j ∨ (w.heap.size ≤ j ∧ j < w5.heap.size)) k (fun x h e st => nodeW S n x.2 (lv - 1) x.1 true h e st) hi isEnd [] res w'') ∧
                  (∀ y r w'', L.drop (i + 1) = y :: r → Nx y.1 true w'' → Alt w0.heap.size (fun j => F j ∨ (w.heap.size ≤ j ∧ j < w5.heap.size)) k (fun x h e st => nodeW S n x.2 (lv - 1) x.1 true h e st) hi isEnd (y :: r) res w'') := by
                rcases AR.out with ⟨pv', qv', st', hw', he'⟩ | ⟨he', pv', qv', st', hw'⟩
                · rw [hdx] at he'
                  refine ⟨fun hh ee w'' => NodeP w0.heap.size (fun j => F j ∨ (w.heap.size ≤ j ∧ j < w5.heap.size)) w'' k (nodeW S n x.2 (lv - 1) x.1 true hh ee st'), fun hh ee W' MS => ?_, fun w'' hd hN => ?_, fun y r w'' hd hN => ?_⟩
                  · exact IH.out x.2 (lv - 1) x.1 hh true ee st' _ W' pv' qv' (by unfold I64; omega) (by omega) (by omega) (by omega) (((N0.out.same M4.out).then_ MW.out (fun j hj q => q (.inl (HFl.out j hj)))).same MS) (fun j hj => .inl (HFl.out j hj)) (hw'.same MS)
                  · rw [hd] at he'
                    exact Alt.last hN he'
                  · rw [hd] at he'
                    exact Alt.mid hN he'
                · refine ⟨fun hh ee w'' => ∃ pv qv st, Wk w0.heap.size (fun j => F j ∨ (w.heap.size ≤ j ∧ j < w5.heap.size)) w'' k pv qv (.int .i64 3) st, fun hh ee W' MS => ?_, fun w'' hd hN => .inr ⟨he', hN⟩, fun y r w'' hd hN => .inr ⟨he', hN⟩⟩
                  exact (node_bad _ _ _ _ _ _ _ k pv' qv' W' (hw'.same MS).blk).mono fun e w'' ⟨h1, h2⟩ => ⟨h1, h2.mono (fun _ _ q => q.elim), pv', qv', st', (hw'.same MS).same h2⟩
              obtain ⟨Nx, hC, hN1, hN2⟩ := key
              have HCl := Lib.hid hC
              have HN1 := Lib.hid hN1
              have HN2 := Lib.hid hN2
              clear hC hN1 hN2 AR hdx
              by_cases hlast : i + 1 < nl
              · obtain ⟨y, hy⟩ : ∃ y, L[i + 1]? = some y := ⟨_, List.getElem?_eq_getElem (by rw [HNL.out]; exact hlast)⟩
                have hdy : L.drop (i + 1) = y :: L.drop (i + 2) := by
                  have := List.drop_eq_getElem_cons (l := L) (i := i + 1) (by rw [HNL.out]; exact hlast)
                  rw [this]
                  congr 1
                  exact (List.getElem?_eq_some_iff.1 hy).2
                have HDy := Lib.hid hdy
                have d0 := (MW.out.cell (b := b) (by omega) (fun q => q (.inr ⟨by omega, by omega⟩)) _).trans (HC4.out (i + 1) y hy).1
                clear hx hy hdy
                go_wp2_with fail
                have MS1 := Lib.hid (show Same wr ((wr.alloc (.cells #[.int .u64 x.1, .int .u64 x.2] 123)).alloc (.cells #[.int .u64 x.1, .bool true, .int .u64 y.1, .bool true] 140)) from ((Mod.refl _ _).alloc _).alloc _)
                refine (HCl.out y.1 true _ MS1.out).mono ?_
                rintro e w8 ⟨rfl, M, hn⟩
                have HNn := Lib.hid hn
                have M8 := Lib.hid (MR.out.then_ ((MS1.out.mono (fun _ _ q => q.elim)).then_ M (fun _ _ q => q)) (fun _ _ q => q))
                clear hn M MS1 x42 x43 y40 y41 c0 c1 d0 HCl
                go_wp2_with fail
                go_roundw
                case rel => exact ⟨i + 1, by omega, by go_num, M8.out, by rw [HDy.out]; exact HN2.out y _ _ HDy.out HNn.out⟩
                case measure => simp [intOf]; omega
              · have hdn : L.drop (i + 1) = [] := List.drop_eq_nil_of_le (by rw [HNL.out]; omega)
                have HDn := Lib.hid hdn
                clear hx hdn
                go_wp2_with fail
                have MS1 := Lib.hid (show Same wr ((wr.alloc (.cells #[.int .u64 x.1, .int .u64 x.2] 123)).alloc (.cells #[.int .u64 x.1, .bool true, .int .u64 hi, .bool isEnd] 140)) from ((Mod.refl _ _).alloc _).alloc _)
                refine (HCl.out hi isEnd _ MS1.out).mono ?_
                rintro e w8 ⟨rfl, M, hn⟩
                have HNn := Lib.hid hn
                have M8 := Lib.hid (MR.out.then_ ((MS1.out.mono (fun _ _ q => q.elim)).then_ M (fun _ _ q => q)) (fun _ _ q => q))
                clear hn M MS1 x42 x43 y40 y41 c0 c1 HCl
                go_wp2_with fail
                go_roundw
                case rel => exact ⟨i + 1, by omega, by go_num, M8.out, by rw [HDn.out]; exact HN1.out _ HDn.out HNn.out⟩
                case measure => simp [intOf]; omega
            · obtain rfl : i = nl := by omega
              have hA := AR.out
              rw [List.drop_eq_nil_of_le (by rw [HNL.out]; exact Nat.le_refl _)] at hA
              have HA := Lib.hid hA
              clear hA AR
              go_wp2_with fail
              exact bodyPost_ret (v := .tuple #[]) (by simp [results, Tryz.results56, go_sem]) rfl (HR.out _ _ ⟨rfl, (M4.out.mono (fun _ _ q => q.elim)).then_ MW.out (fun i hi q r => q (.inl r)), HA.out.done (fun i q => .inl q)⟩)
theorem node_any {B0 B2 : Nat} {w0 : World} {s d kb fb m lb : Nat} {h : Hd} {at_ u : Int} {S : List (List UInt8)} (T : Sto B0 w0 s d kb fb h at_) (HD : Dev B2 w0 d m lb u S (.map [])) (hS : ∀ s ∈ S, s.length = 16) (k : Nat) : ∀ (n : Nat)
    (p lvl fi hi : Int) (isSub isEnd : Bool) (st : WSt) (F : Nat → Prop) (w : World) (pv qv : Value), I64 p → -1 ≤ lvl → lvl < n → (lvl < 0 → 9 ≤ n) → Same w0 w → (∀ i, i < w0.heap.size → F i) → Wk w0.heap.size F w k pv qv (.int .i64 0) st →
      Calls Tryz.prog 56 #[bp k, .iface 42 (bp s), .int .i64 p, .int .i64 lvl, .agg #[.int .u64 fi, .bool isSub, .int .u64 hi, .bool isEnd]] w fun e w' => e = .returned (.tuple #[]) ∧ Mod (fun i => ¬ F i) w w' ∧ NodeP w0.heap.size F w' k (nodeW S n p lvl fi isSub hi isEnd st)
  | 0 => fun p lvl fi hi isSub isEnd st F w pv qv hp h1 h2 h3 _ _ _ => by omega
  | n + 1 => fun p lvl fi hi isSub isEnd st F w pv qv hp h1 h2 h3 hM hF hW => node_step T HD hS k n (node_any T HD hS k n) p lvl fi hi isSub isEnd st F w pv qv hp h1 (by omega) h3 hM hF hW
end Go.Proofs.YtjkndfenniongaaGreatDoor
set_option maxRecDepth 100000
/- A walk through a tree; its pages. -/
namespace Go.Proofs.YtjkndfenniongaaGreatDoor
open Go Go.RowKit
def walkW (S : List (List UInt8)) (root : Int) : Option WSt := if root = 0 then some ([], []) else nodeW S 9 root (-1) 0 false 0 false ([], [])
theorem wk_new (w : World) : Wk w.heap.size (fun i => i < w.heap.size) (w.alloc (.cells #[.slice none 0 0, .slice none 0 0, .int .i64 0] 104)) w.heap.size (.slice none 0 0) (.slice none 0 0) (.int .i64 0) ([], []) :=
  ⟨Blk.new w _ _, World.ownsRow_nil _ _ _ _, World.ownsRow_nil _ _ _ _, by omega, fun i q => by simp; omega, fun b q => by simp [Value.ownBlock] at q, fun b q => by simp [Value.ownBlock] at q, by simp, by simp, by simp, by simp⟩
section
variable {B0 B2 : Nat} {w : World} {s d kb fb m lb : Nat} {h : Hd} {at_ u : Int} {S : List (List UInt8)}
theorem all_any (T : Sto B0 w s d kb fb h at_) (HD : Dev B2 w d m lb u S (.map [])) (hS : ∀ s ∈ S, s.length = 16) (root : Int) (hr : I64 root) :
    Calls Tryz.prog 35 #[.iface 42 (bp s), .int .i64 root] w fun e w' => ∃ k, e = .returned (bp k) ∧ w.heap.size ≤ k ∧ Same w w' ∧ NodeP w.heap.size (fun i => i < w.heap.size) w' k (walkW S root) := by
  refine opq fun R HR => ?_
  have W0 := Lib.hid (wk_new w)
  have M0 := Lib.hid (show Same w (w.alloc (.cells #[.slice none 0 0, .slice none 0 0, .int .i64 0] 104)) from (Mod.refl _ _).alloc _)
  have HN := Lib.hid (fun hq => node_any T HD hS w.heap.size 9 root (-1) 0 0 false false ([], []) (fun i => i < w.heap.size) _ _ _ hr (by omega) (by omega) (by omega) M0.out hq W0.out)
  clear T HD
  unfold walkW at HR
  by_cases h0 : root = 0
  · rw [if_pos h0] at HR
    subst h0
    go_enter Tryz.func35, Tryz.ntmps35
    go_wp2_with fail
    exact HR.out _ _ ⟨_, rfl, Nat.le_refl _, M0.out, _, _, W0.out⟩
  · rw [if_neg h0] at HR
    have hb : (root != 0) = true := by simp [h0]
    clear h0
    go_enter Tryz.func35, Tryz.ntmps35
    go_wp2_with fail
    refine (HN.out (fun i q => q)).mono ?_
    rintro e w2 ⟨rfl, M, hn⟩
    have M2 := Lib.hid (M0.out.then_ M (fun i hi q => q hi))
    have N2 := Lib.hid hn
    clear M hn
    go_wp2
    exact HR.out _ _ ⟨_, rfl, Nat.le_refl _, M2.out, N2.out⟩
def ReachP (S : List (List UInt8)) (root : Int) (B : Nat) (e : Ending) (w' : World) : Prop := match walkW S root with
  | none => e = .returned (.tuple #[.slice none 0 0, .int .i64 3])
  | some st => ∃ a c, e = .returned (.tuple #[.slice a st.1.length c, .int .i64 0]) ∧ Ins w' a st.1 ∧ st.1.length ≤ 511 ∧ ∀ b o, a = some ⟨b, o, none⟩ → B ≤ b
theorem reach_any (T : Sto B0 w s d kb fb h at_) (HD : Dev B2 w d m lb u S (.map [])) (hS : ∀ s ∈ S, s.length = 16) (root : Int) (hr : I64 root) :
    Calls Tryz.prog 14 #[.iface 42 (bp s), .int .i64 root] w fun e w' => ReachP S root w.heap.size e w' ∧ Same w w' := by
  refine opq fun R HR => ?_
  have HA := Lib.hid (all_any T HD hS root hr)
  clear T HD
  unfold ReachP at HR
  go_enter Tryz.func14, Tryz.ntmps14
  go_wp2_with fail
  refine HA.out.mono ?_
  rintro e w2 ⟨k, rfl, hk, M, hn⟩
  have M2 := Lib.hid M
  clear M HA
  cases hw : walkW S root with
  | none =>
    rw [hw] at HR hn
    obtain ⟨pv, qv, st, hW⟩ := hn
    have e2 := hW.blk.at_ (i := 2) _ rfl
    clear hW
    dsimp only at HR
    go_wp2_with fail
    go_big_quiet (fail)
    go_wp2
    exact HR.out _ _ ⟨rfl, by first | exact M2.out | exact M2.out.drewN _ | exact (M2.out.drewN _).drewN _⟩
  | some st =>
    rw [hw] at HR hn
    obtain ⟨pv, qv, hW⟩ := hn
    obtain ⟨a, c, rfl, hI⟩ := ins_own hW.po
    have e2 := hW.blk.at_ (i := 2) _ rfl
    have e0 := hW.blk.at_ (i := 0) _ rfl
    have hsh := hW.short
    have HFr := Lib.hid (fun (b o : Nat) (q : a = some ⟨b, o, none⟩) => (hW.po.lt b (by rw [q]; rfl)).1)
    clear hW
    dsimp only at HR
    go_wp2_with fail
    exact HR.out _ _ ⟨⟨a, c, rfl, hI, hsh, HFr.out⟩, M2.out⟩
end
end Go.Proofs.YtjkndfenniongaaGreatDoor
set_option maxRecDepth 100000
/- Pairs of a range. -/
namespace Go.Proofs.YtjkndfenniongaaGreatDoor
open Go Go.RowKit
def outP (lo hi : Int) (p : Int × Int) : Bool := decide (p.1 < lo) || decide (hi < p.1)
theorem outr_any (p : Int × Int) (bl bh : Nat) (lo hi : Int) (w : World) (hl : Blk w bl #[.int .u64 lo]) (hh : Blk w bh #[.int .u64 hi]) : Calls Tryz.prog 84 #[.agg #[.int .u64 p.1, .int .u64 p.2], bp bl, bp bh] w fun e w' => e = .returned (.bool (outP lo hi p)) ∧ Same w w' := by
  refine opq fun R HR => ?_
  obtain ⟨k, v⟩ := p
  unfold outP at HR
  dsimp only at HR ⊢
  have l0 := hl.at_ (i := 0) _ rfl
  have h0 := hh.at_ (i := 0) _ rfl
  have l1 := hl.lt
  have h1 := hh.lt
  clear hl hh
  by_cases h2 : k < lo
  · rw [decide_eq_true h2] at HR
    go_enter Tryz.func84, Tryz.ntmps84
    go_wp2
    exact HR.out _ _ ⟨rfl, (Mod.refl _ _).alloc _⟩
  · rw [decide_eq_false h2] at HR
    go_enter Tryz.func84, Tryz.ntmps84
    go_wp2
    exact HR.out _ _ ⟨by simp, (Mod.refl _ _).alloc _⟩
/-- Pairs in a block of the call's own. -/
structure RowP (w : World) (g n : Nat) (f : Nat → Int × Int) : Prop where
  lt : g < w.heap.size
  c0 : ∀ i, i < n → w.cell? ⟨g, i * 2, none⟩ = some (.int .u64 (f i).1)
  c1 : ∀ i, i < n → w.cell? ⟨g, i * 2 + 1, none⟩ = some (.int .u64 (f i).2)
  free : ∀ i, w.frozen? ⟨g, i, none⟩ = false
theorem RowP.mod {S : Nat → Prop} {w w' : World} {g n : Nat} {f : Nat → Int × Int} (h : RowP w g n f) (M : Mod S w w') (hs : ¬ S g) : RowP w' g n f :=
  ⟨Nat.lt_of_lt_of_le h.lt M.size, fun i hi => (M.cell h.lt hs _).trans (h.c0 i hi), fun i hi => (M.cell h.lt hs _).trans (h.c1 i hi), fun i => (M.frozen h.lt hs i).trans (h.free i)⟩
theorem RowP.set {w : World} {g n : Nat} {f : Nat → Int × Int} (h : RowP w g n f) (i : Nat) (hi : i < n) (p : Int × Int) : RowP ((w.setCell ⟨g, i * 2, none⟩ (.int .u64 p.1)).setCell ⟨g, i * 2 + 1, none⟩ (.int .u64 p.2)) g n (upd f i p) :=
  ⟨by simp only [World.size_setCell]; exact h.lt, fun j hj => by
    unfold upd
    rw [World.cell?_setCell_other _ _ _ _ (fun e => by injection e; omega)]
    by_cases q : j = i
    · subst q; rw [if_pos rfl]; exact World.cell?_setCell_same _ _ _ (h.c0 j hj)
    · rw [if_neg q, World.cell?_setCell_other _ _ _ _ (fun e => by injection e; omega)]; exact h.c0 j hj, fun j hj => by
    unfold upd
    by_cases q : j = i
    · subst q; rw [if_pos rfl]
      refine World.cell?_setCell_same _ _ _ (?_ : _ = some (.int .u64 (f j).2))
      rw [World.cell?_setCell_other _ _ _ _ (fun e => by injection e; omega)]; exact h.c1 j hj
    · rw [if_neg q, World.cell?_setCell_other _ _ _ _ (fun e => by injection e; omega), World.cell?_setCell_other _ _ _ _ (fun e => by injection e; omega)]; exact h.c1 j hj,
    fun j => by rw [frozen_setCell, frozen_setCell]; exact h.free j⟩
theorem rowP_own {w : World} {base n : Nat} {ty : TypeId} {g c : Nat} {L : List (Int × Int)} (h : w.ownsRow base ty 2 (.slice (some ⟨g, 0, none⟩) L.length c) L.length (L.flatMap prC)) (hp : 0 < L.length) : RowP w g L.length (fun i => L.getD i (0, 0)) := by
  obtain ⟨g', cap, hv, hb, hc, hr⟩ := RowV.of_owns h hp
  injection hv with ha
  injection ha with ha
  injection ha with ha
  subst ha
  refine ⟨hr.lt, fun i hi => ?_, fun i hi => ?_, hr.free⟩
  · have hx : L[i]? = some L[i] := List.getElem?_eq_getElem hi
    refine (hr.cell (i * 2) (by omega)).trans ?_
    rw [List.getD_eq_getElem?_getD, show i * 2 = i * 2 + 0 from rfl, pr_flat_get L i 0 _ hx (by omega), List.getD_eq_getElem?_getD, hx]; rfl
  · have hx : L[i]? = some L[i] := List.getElem?_eq_getElem hi
    refine (hr.cell (i * 2 + 1) (by omega)).trans ?_
    rw [List.getD_eq_getElem?_getD, pr_flat_get L i 1 _ hx (by omega), List.getD_eq_getElem?_getD, hx]; rfl
theorem run_clear_pairs (w : World) (ty : TypeId) (b o n c : Nat) (hn : 0 < n) (hc : ∀ j, j < n * 2 → (w.cell? ⟨b, o + j, none⟩).isSome = true) (hf : ∀ j, j < n * 2 → w.frozen? ⟨b, o + j, none⟩ = false) :
    (Builtin.clear_ #[68] ty #[.slice (some ⟨b, o, none⟩) n c]).run Tryz.prog w = .ok (.tuple #[]) (w.setCells b o (List.replicate (n * 2) (.int .u64 0))) := by
  have hzv := fun w => Tryz.zeroValue123 w
  have hzc : (Builtin.zeroCells #[Value.int .u64 0, Value.int .u64 0] n).toList = List.replicate (n * 2) (.int .u64 0) := by
    simp [Builtin.zeroCells]
    apply List.ext_getElem
    · simp
    · intro i h1 h2
      rcases (show i % 2 = 0 ∨ i % 2 = 1 by omega) with e | e <;> simp [e]
  have hst := run_storeCells_cells (P := Tryz.prog) b o (List.replicate (n * 2) (.int .u64 0)) 0 w (by simpa using hc) (by simpa using hf) (by intro v hv'; rw [List.eq_of_mem_replicate hv']; rfl)
  simp only [Nat.add_zero] at hst
  obtain ⟨m, rfl⟩ : ∃ m, n = m + 1 := ⟨n - 1, by omega⟩
  have hcl : (Value.agg #[Value.int .u64 0, Value.int .u64 0]).cells = #[Value.int .u64 0, Value.int .u64 0] := rfl
  simp [Builtin.clear_, run_underlying Tryz.underlying68, hzv, hcl, hzc, hst]
theorem mod_setCells (b : Nat) : ∀ (vs : List Value) (o : Nat) (w : World), Mod (fun i => i = b) w (w.setCells b o vs)
  | [], o, w => Mod.refl _ _
  | v :: r, o, w => ((Mod.refl (fun i => i = b) w).setCell (p := ⟨b, o, none⟩) (fun _ => rfl) v).trans (mod_setCells b r (o + 1) _)
set_option maxHeartbeats 4000000 in
theorem idxout_any (bl bh : Nat) (lo hi : Int) (a : Option Addr) (c : Nat) (L : List (Int × Int)) (w : World) (hl : L.length ≤ 1000000) (hP : Prs w a L) (hbl : Blk w bl #[.int .u64 lo]) (hbh : Blk w bh #[.int .u64 hi]) : Calls Tryz.prog 93 #[.slice a L.length c, .func (.func 84) #[] #[bp bl, bp bh]] w fun e w' =>
    ((e = .returned (.int .i64 (-1)) ∧ ∀ x ∈ L, outP lo hi x = false) ∨ (∃ (i : Nat) (x : Int × Int), e = .returned (.int .i64 (i : Int)) ∧ L[i]? = some x ∧ outP lo hi x = true ∧ ∀ y ∈ L.take i, outP lo hi y = false)) ∧ Same w w' := by
  refine opq fun R HR => ?_
  have HP := Lib.hid hP
  have BL := Lib.hid hbl
  have BH := Lib.hid hbh
  obtain ⟨n, hn⟩ : ∃ n, L.length = n := ⟨_, rfl⟩
  rw [hn] at hl ⊢
  have HN := Lib.hid hn
  clear hn hP hbl hbh
  go_enter Tryz.func93, Tryz.ntmps93
  go_wp2_with fail
  go_loopw [8, 5] (fun vi _ wr => ∃ k : Nat, k ≤ n ∧ vi = .int .i64 (k : Int) ∧ (∀ y ∈ L.take k, outP lo hi y = false) ∧ Same w wr) (fun vi _ _ => n - (intOf vi).toNat)
  case atStart => exact ⟨0, by omega, rfl, fun y h => by simp at h, Mod.refl _ _⟩
  case round =>
    obtain ⟨k, hk, rfl, hok, M⟩ := hrel
    have J := Lib.hid M
    have OK := Lib.hid hok
    clear M hok
    by_cases hlt : k < n
    · obtain ⟨b, o, rfl, hb, hc⟩ := HP.out (by rw [HN.out]; omega)
      obtain ⟨x, hx⟩ : ∃ x, L[k]? = some x := ⟨_, List.getElem?_eq_getElem (by rw [HN.out]; omega)⟩
      have e0 := (J.out.cell hb (fun q => q) _).trans (hc k x hx).1
      have e1 := (J.out.cell hb (fun q => q) _).trans (hc k x hx).2
      have HX := Lib.hid hx
      have HO := Lib.hid (fun w' (M : Same w w') => outr_any x bl bh lo hi w' (BL.out.mod M (fun q => q)) (BH.out.mod M (fun q => q)))
      clear hc hx
      obtain ⟨y, v⟩ := x
      dsimp only at e0 e1 HO
      go_wp2_with fail
      refine (HO.out _ J.out).mono ?_
      rintro e w3 ⟨rfl, M⟩
      have J3 := Lib.hid (J.out.same M)
      clear M J e0 e1 HO
      cases hf : outP lo hi (y, v) with
      | true =>
        go_wp2_with fail
        exact HR.out _ _ ⟨.inr ⟨k, (y, v), rfl, HX.out, hf, OK.out⟩, J3.out⟩
      | false =>
        have OK2 := Lib.hid (show ∀ z ∈ L.take (k + 1), outP lo hi z = false from fun z hz => by
          rw [List.take_add_one, HX.out, List.mem_append] at hz
          rcases hz with q | q
          · exact OK.out z q
          · simp at q; rw [q]; exact hf)
        clear hf
        go_wp2_with fail
        go_roundw
        case rel => exact ⟨k + 1, by omega, by go_num, OK2.out, J3.out⟩
        case measure => simp [intOf]; omega
    · have hfl : ∀ x ∈ L, outP lo hi x = false := fun x hx => OK.out x (by rw [List.take_of_length_le (by rw [HN.out]; omega)]; exact hx)
      have HFl := Lib.hid hfl
      clear hfl
      go_wp2_with fail
      exact HR.out _ _ ⟨.inl ⟨rfl, HFl.out⟩, J.out⟩
end Go.Proofs.YtjkndfenniongaaGreatDoor
set_option maxRecDepth 100000
/- slices.DeleteFunc of pairs; tree.Range. -/
namespace Go.Proofs.YtjkndfenniongaaGreatDoor
open Go Go.RowKit
def keepL (lo hi : Int) (L : List (Int × Int)) : List (Int × Int) := L.filter fun p => !outP lo hi p
theorem filt_keep {lo hi : Int} {L : List (Int × Int)} {j : Nat} {x : Int × Int} {f : Nat → Int × Int} {i : Nat} (h : (List.range i).map f = keepL lo hi (L.take j)) (hx : L[j]? = some x) (hk : outP lo hi x = false) : (List.range (i + 1)).map (upd f i x) = keepL lo hi (L.take (j + 1)) := by
  unfold keepL at *
  rw [List.take_add_one, hx, List.filter_append, ← h, List.range_succ, List.map_append]
  congr 1
  · apply List.map_congr_left
    intro t ht
    have := List.mem_range.1 ht
    unfold upd
    rw [if_neg (by omega)]
  · simp [upd, hk]
theorem filt_drop {lo hi : Int} {L : List (Int × Int)} {j : Nat} {x : Int × Int} (hx : L[j]? = some x) (hk : outP lo hi x = true) : keepL lo hi (L.take (j + 1)) = keepL lo hi (L.take j) := by
  unfold keepL
  rw [List.take_add_one, hx, List.filter_append]
  simp [hk]
theorem filt_all {lo hi : Int} {L : List (Int × Int)} (h : ∀ x ∈ L, outP lo hi x = false) : keepL lo hi L = L := by
  unfold keepL
  rw [List.filter_eq_self]
  intro x hx
  simp [h x hx]
set_option maxHeartbeats 8000000 in
theorem delf_any (bl bh : Nat) (lo hi : Int) (base : Nat) (v : Value) (L : List (Int × Int)) (w : World) (hl : L.length ≤ 1000000) (hown : w.ownsRow base 123 2 v L.length (L.flatMap prC)) (hbl : Blk w bl #[.int .u64 lo]) (hbh : Blk w bh #[.int .u64 hi]) (hnl : v.ownBlock ≠ some bl) (hnh : v.ownBlock ≠ some bh) :
    Calls Tryz.prog 83 #[v, .func (.func 84) #[] #[bp bl, bp bh]] w fun e w' => (∃ a c, e = .returned (.slice a (keepL lo hi L).length c) ∧ Prs w' a (keepL lo hi L)) ∧ Mod (fun i => v.ownBlock = some i) w w' := by
  refine opq fun R HR => ?_
  obtain ⟨a, c, rfl, hP⟩ := prs_own hown
  have HI := Lib.hid (idxout_any bl bh lo hi a c L w hl hP hbl hbh)
  have BL := Lib.hid hbl
  have BH := Lib.hid hbh
  have HOw := Lib.hid hown
  obtain ⟨n, hn⟩ : ∃ n, L.length = n := ⟨_, rfl⟩
  have HN := Lib.hid hn
  have hPh := Lib.hid hP
  clear hown hbl hbh hP
  rw [hn] at HI hl ⊢
  go_enter Tryz.func83, Tryz.ntmps83
  go_wp2_with fail
  refine HI.out.mono ?_
  rintro e w1 ⟨hor, M⟩
  have M1 := Lib.hid M
  clear M HI
  rcases hor with ⟨rfl, hall⟩ | ⟨i, x, rfl, hx, hxo, hbef⟩
  · have hk := filt_all hall
    rw [hk, hn] at HR
    go_wp2_with fail
    exact HR.out _ _ ⟨⟨a, c, rfl, hPh.out.same M1.out⟩, M1.out.mono (fun _ _ q => q.elim)⟩
  · have hin : i < n := by have := (List.getElem?_eq_some_iff.1 hx).1; omega
    obtain ⟨g, cap, hv, hbg, hcp, hrv⟩ := RowV.of_owns HOw.out (by omega)
    simp only [Value.slice.injEq] at hv
    obtain ⟨rfl, -, rfl⟩ := hv
    have hrp := rowP_own (n := 0) HOw.out (by omega)
    have RP := Lib.hid (hrp.mod M1.out (fun q => q))
    rw [hn] at RP hcp
    have hgl : g ≠ bl := fun e => hnl (by rw [e]; rfl)
    have hgh : g ≠ bh := fun e => hnh (by rw [e]; rfl)
    have BL1 := Lib.hid (BL.out.mod M1.out (fun q => q))
    have BH1 := Lib.hid (BH.out.mod M1.out (fun q => q))
    have F0 := Lib.hid (show (List.range i).map (fun t => L.getD t (0, 0)) = keepL lo hi (L.take (i + 1)) by
      rw [filt_drop hx hxo, filt_all hbef]
      apply List.ext_getElem
      · simp; omega
      · intro t h1 h2
        simp at h1 ⊢
        rw [List.getElem?_eq_getElem (by omega)]; rfl)
    have hne : (↑i == (-1 : Int)) = false := beq_eq_false_iff_ne.2 (by omega)
    clear hx hxo hbef hrv hrp BL BH
    go_wp2_with fail
    go_loopw [5, 6] (fun vi vj wr => ∃ (i j : Nat) (f : Nat → Int × Int), i < j ∧ j ≤ n ∧ vi = .int .i64 (i : Int) ∧ vj = .int .i64 (j : Int) ∧ RowP wr g n f ∧ (List.range i).map f = keepL lo hi (L.take j) ∧ (∀ t, j ≤ t → t < n → f t = L.getD t (0, 0)) ∧ Mod (fun x => x = g) w1 wr) (fun _ vj _ => n - (intOf vj).toNat)
    case atStart => exact ⟨i, i + 1, _, by omega, by omega, rfl, by go_num, RP.out, F0.out, fun t _ _ => rfl, Mod.refl _ _⟩
    case round =>
      obtain ⟨i', j, f, hij, hjn, rfl, rfl, hr, hf, hrest, hM⟩ := hrel
      have RR := Lib.hid hr
      have FF := Lib.hid hf
      have FR := Lib.hid hrest
      have MR := Lib.hid hM
      clear hr hf hrest hM RP F0
      by_cases hlt : j < n
      · obtain ⟨x, hx⟩ : ∃ x, L[j]? = some x := ⟨_, List.getElem?_eq_getElem (by omega)⟩
        have hfj : f j = x := by rw [FR.out j (Nat.le_refl _) hlt, List.getD_eq_getElem?_getD, hx]; rfl
        have e0 := RR.out.c0 j hlt
        have e1 := RR.out.c1 j hlt
        rw [hfj] at e0 e1
        have HX := Lib.hid hx
        have HO := Lib.hid (fun w' (M : Same wr w') => outr_any x bl bh lo hi w' ((BL1.out.mod MR.out (fun q => hgl q.symm)).mod M (fun q => q)) ((BH1.out.mod MR.out (fun q => hgh q.symm)).mod M (fun q => q)))
        have hglt := RR.out.lt
        clear hx hfj
        obtain ⟨ky, vl⟩ := x
        dsimp only at e0 e1 HO
        have X1 := Lib.hid (Blk.new wr #[.int .u64 ky, .int .u64 vl] 123)
        have J1 := Lib.hid (show Same wr (wr.alloc (.cells #[.int .u64 ky, .int .u64 vl] 123)) from (Mod.refl _ _).alloc _)
        go_wp2_with fail
        generalize wr.alloc _ = w2 at *
        refine (HO.out _ J1.out).mono ?_
        rintro e w3 ⟨rfl, M⟩
        have J3 := Lib.hid (J1.out.same M)
        have X3 := Lib.hid (X1.out.mod M (fun q => q))
        have R3 := Lib.hid (RR.out.mod J3.out (fun q => q))
        have x30 := X3.out.at_ (i := 0) _ rfl
        have x31 := X3.out.at_ (i := 1) _ rfl
        have MR3 := Lib.hid (MR.out.same J3.out)
        clear M e0 e1 HO J1 X1 MR
        cases hko : outP lo hi (ky, vl) with
        | true =>
          have FF2 := Lib.hid ((FF.out).trans (filt_drop HX.out hko).symm)
          go_wp2_with fail
          go_roundw
          case rel => exact ⟨i', j + 1, f, by omega, by omega, rfl, by go_num, R3.out, FF2.out, fun t h1 h2 => FR.out t (by omega) h2, MR3.out⟩
          case measure => simp [intOf]; omega
        | false =>
          have FF2 := Lib.hid (filt_keep FF.out HX.out hko)
          have hi' : i' < n := by omega
          have d0 := R3.out.c0 i' hi'
          have d1 := R3.out.c1 i' hi'
          have f0 := R3.out.free (i' * 2)
          have f1 := R3.out.free (i' * 2 + 1)
          have R4 := Lib.hid (R3.out.set i' hi' (ky, vl))
          have M4 := Lib.hid ((MR3.out.setCell (p := ⟨g, i' * 2, none⟩) (fun _ => rfl) (.int .u64 ky)).setCell (p := ⟨g, i' * 2 + 1, none⟩) (fun _ => rfl) (.int .u64 vl))
          dsimp only at R4
          go_wp2_with fail
          go_roundw
          case rel => exact ⟨i' + 1, j + 1, _, by omega, by omega, by go_num, by go_num, R4.out, FF2.out, fun t h1 h2 => by unfold upd; rw [if_neg (by omega)]; exact FR.out t (by omega) h2, M4.out⟩
          case measure => simp [intOf]; omega
      · obtain rfl : j = n := by omega
        have hcl := fun ty => run_clear_pairs wr ty g (i' * 2) (j - i') (c - i') (by omega) (fun t ht => by
            rcases (show (i' * 2 + t) % 2 = 0 ∨ (i' * 2 + t) % 2 = 1 by omega) with e | e
            · rw [show i' * 2 + t = (i' * 2 + t) / 2 * 2 by omega, RR.out.c0 _ (by omega)]; rfl
            · rw [show i' * 2 + t = (i' * 2 + t) / 2 * 2 + 1 by omega, RR.out.c1 _ (by omega)]; rfl) (fun t _ => RR.out.free _)
        have hfin := FF.out
        rw [List.take_of_length_le (by omega)] at hfin
        have hkl : (keepL lo hi L).length = i' := by rw [← hfin]; simp
        have PZ := Lib.hid (show Prs (wr.setCells g (i' * 2) (List.replicate ((j - i') * 2) (.int .u64 0))) (some ⟨g, 0, none⟩) (keepL lo hi L) from fun _ => ⟨g, 0, rfl, Nat.lt_of_lt_of_le RR.out.lt (mod_setCells g _ _ wr).size, fun t p ht => by
          rw [← hfin, List.getElem?_map] at ht
          obtain ⟨t', ht', rfl⟩ := Option.map_eq_some_iff.1 ht
          obtain ⟨h1, rfl⟩ := List.getElem?_eq_some_iff.1 ht'
          simp at h1
          simp only [List.getElem_range, Nat.zero_add]
          rw [World.cell?_setCells_out g _ _ _ _ (fun _ _ => .inl (by show t * 2 < i' * 2; omega)), World.cell?_setCells_out g _ _ _ _ (fun _ _ => .inl (by show t * 2 + 1 < i' * 2; omega))]
          exact ⟨RR.out.c0 t (by omega), RR.out.c1 t (by omega)⟩⟩)
        have MZ := Lib.hid (((M1.out.mono (fun _ _ q => q.elim)).then_ (MR.out.trans (mod_setCells g (List.replicate ((j - i') * 2) (.int .u64 0)) (i' * 2) wr)) (fun i _ q => q)) : Mod (fun i => i = g) w _)
        rw [hkl] at HR
        clear hfin hkl FF
        go_wp2_with fail
        exact HR.out _ _ ⟨⟨_, _, rfl, PZ.out⟩, MZ.out.mono (fun i _ q => by rw [q]; rfl)⟩
def RangeP (S : List (List UInt8)) (root lo hi : Int) (e : Ending) (w' : World) : Prop := match walkW S root with
  | none => e = .returned (.tuple #[.slice none 0 0, .int .i64 3])
  | some st => ∃ a c, e = .returned (.tuple #[.slice a (keepL lo hi st.2).length c, .int .i64 0]) ∧ Prs w' a (keepL lo hi st.2) ∧ st.2.length ≤ 7665
theorem range_any {B0 B2 : Nat} {w : World} {s d kb fb m lb : Nat} {h : Hd} {at_ u : Int} {S : List (List UInt8)} (T : Sto B0 w s d kb fb h at_) (HD : Dev B2 w d m lb u S (.map [])) (hS : ∀ s ∈ S, s.length = 16) (root : Int) (hr : I64 root) (lo hi : Int) :
    Calls Tryz.prog 57 #[.iface 42 (bp s), .int .i64 root, .int .u64 lo, .int .u64 hi] w fun e w' => RangeP S root lo hi e w' ∧ Same w w' := by
  refine opq fun R HR => ?_
  have M0 := Lib.hid (show Same w ((w.alloc (.cells #[.int .u64 lo] 51)).alloc (.cells #[.int .u64 hi] 51)) from ((Mod.refl _ _).alloc _).alloc _)
  have BL := Lib.hid ((Blk.new w #[.int .u64 lo] 51).alloc (.cells #[.int .u64 hi] 51))
  have BH := Lib.hid (Blk.new (w.alloc (.cells #[.int .u64 lo] 51)) #[.int .u64 hi] 51)
  rw [show (w.alloc (.cells #[.int .u64 lo] 51)).heap.size = w.heap.size + 1 by simp] at BH
  have HA := Lib.hid (all_any (T.same M0.out) (HD.same M0.out) hS root hr)
  have hsz : ((w.alloc (.cells #[.int .u64 lo] 51)).alloc (.cells #[.int .u64 hi] 51)).heap.size = w.heap.size + 2 := by simp
  clear T HD
  unfold RangeP at HR
  go_enter Tryz.func57, Tryz.ntmps57
  go_wp2_with fail
  generalize (w.alloc _).alloc _ = W0 at *
  refine HA.out.mono ?_
  rintro e w2 ⟨k, rfl, hk, M, hn⟩
  have M2 := Lib.hid (M0.out.same M)
  have BL2 := Lib.hid (BL.out.mod M (fun q => q))
  have BH2 := Lib.hid (BH.out.mod M (fun q => q))
  clear M HA BL BH
  cases hw : walkW S root with
  | none =>
    rw [hw] at HR hn
    obtain ⟨pv, qv, st, hW⟩ := hn
    have e2 := hW.blk.at_ (i := 2) _ rfl
    clear hW
    dsimp only at HR
    go_wp2_with fail
    go_big_quiet (fail)
    go_wp2
    exact HR.out _ _ ⟨rfl, by first | exact M2.out | exact M2.out.drewN _ | exact (M2.out.drewN _).drewN _⟩
  | some st =>
    rw [hw] at HR hn
    obtain ⟨pv, qv, hW⟩ := hn
    have e2 := hW.blk.at_ (i := 2) _ rfl
    have e1 := hW.blk.at_ (i := 1) _ rfl
    have hq := hW.qn
    have hsh := hW.short
    have HDf := Lib.hid (delf_any w.heap.size (w.heap.size + 1) lo hi _ qv st.2 w2 (by omega) hW.qo BL2.out BH2.out (fun e => by have := (hW.qo.lt _ e).1; omega) (fun e => by have := (hW.qo.lt _ e).1; omega))
    have HQ := Lib.hid hW.qo
    clear hW
    dsimp only at HR
    go_wp2_with fail
    refine HDf.out.mono ?_
    rintro e w3 ⟨⟨a, c, rfl, hP⟩, M⟩
    have M3 := Lib.hid (M2.out.then_ M (fun i hi q => by have := (HQ.out.lt _ q).1; omega))
    have P3 := Lib.hid hP
    clear M hP HDf
    go_wp2_with fail
    exact HR.out _ _ ⟨⟨a, c, rfl, P3.out, by omega⟩, M3.out⟩
end Go.Proofs.YtjkndfenniongaaGreatDoor
