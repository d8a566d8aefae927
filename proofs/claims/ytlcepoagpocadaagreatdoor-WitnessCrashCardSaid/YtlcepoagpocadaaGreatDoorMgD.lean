import Derived.Test.YtlcepoagpocadaaGreatDoorMeZ
import Derived.Maps.RangeRun
set_option linter.unusedSimpArgs false
set_option linter.unusedVariables false
set_option maxRecDepth 100000
/- Maps whose keys are pointers, nil too: look-up, store, range. -/
namespace Go.Proofs.YtlcepoagpocadaaGreatDoor
open Go Go.RowKit
def pk : Option Nat → Value
  | none => .pointer none
  | some c => bp c
theorem pk_inj {a b : Option Nat} (h : pk a = pk b) : a = b := by
  cases a <;> cases b <;> simp [pk, bp] at h <;> first | rfl | rw [h]
def pe (x : Option Nat × Value) : Value × Value := (pk x.1, x.2)
def me (e : MapEntry) : Value × Value := (e.key, e.val)
structure PM (w : World) (b : Nat) (L : List (Option Nat × Value)) : Prop where
  ex : ∃ es clock, w.heap[b]? = some (.map es clock) ∧ es.toList.map me = L.map pe ∧ (∀ e ∈ es.toList, e.born < clock) ∧ (es.toList.map (·.born)).Nodup
  nd : (L.map (·.1)).Nodup
theorem PM.made (w : World) : PM (w.alloc (.map #[] 0)) w.heap.size [] := ⟨⟨#[], 0, (MapKept.heap_alloc w _).1, rfl, by simp, List.nodup_nil⟩, List.nodup_nil⟩
theorem PM.lt {w : World} {b : Nat} {L : List (Option Nat × Value)} (h : PM w b L) : b < w.heap.size := by
  obtain ⟨es, cl, h, _⟩ := h.ex
  exact (Array.getElem?_eq_some_iff.1 h).1
theorem PM.mod {S : Nat → Prop} {w w' : World} {b : Nat} {L : List (Option Nat × Value)} (h : PM w b L) (M : Mod S w w') (hs : ¬ S b) : PM w' b L := by
  have hl := h.lt
  obtain ⟨es, cl, h1, e⟩ := h.ex
  exact ⟨⟨es, cl, by rw [M.block b hl hs]; exact h1, e⟩, h.nd⟩
section
variable {P : Program} {w : World} {t e : TypeId} {i : TypeInfo}
theorem eqIn_nil (d : Nat) (hp : P.underlying t = some (.pointer e)) : (Op.equalIn (d + 1) t (.pointer none) (.pointer none)).run P w = .ok true w := by
  simp [Op.equalIn, run_underlying hp]
theorem eqIn_nil1 (d c : Nat) (hp : P.underlying t = some (.pointer e)) : (Op.equalIn (d + 1) t (.pointer none) (bp c)).run P w = .ok false w := by
  unfold bp
  simp [Op.equalIn, run_underlying hp]
theorem eqIn_nil2 (d c : Nat) (hp : P.underlying t = some (.pointer e)) : (Op.equalIn (d + 1) t (bp c) (.pointer none)).run P w = .ok false w := by
  unfold bp
  simp [Op.equalIn, run_underlying hp]
theorem eqIn_pk (d : Nat) (hp : P.underlying t = some (.pointer e)) (hi : P.info? e = some i) (hsz : i.size ≠ 0) (F : Nat → Array Value) (hB : ∀ x, F x ≠ #[] → Blk w x (F x)) {a b : Option Nat} (ha : ∀ c, a = some c → F c ≠ #[]) (hb : ∀ c, b = some c → F c ≠ #[]) :
    (Op.equalIn (d + 1) t (pk a) (pk b)).run P w = .ok (decide (b = a)) w := by
  cases a with
  | none =>
    cases b with
    | none => exact eqIn_nil d hp
    | some c => exact eqIn_nil1 d c hp
  | some c =>
    cases b with
    | none => exact eqIn_nil2 d c hp
    | some c2 =>
      by_cases q : c = c2
      · subst q
        rw [show decide (some c = some c) = true from decide_eq_true rfl]
        exact eqIn_self d hp hi hsz
      · rw [show decide (some c2 = some c) = false from decide_eq_false (fun r => q (Option.some.inj r).symm)]
        exact eqIn_other d hp hi hsz q (hB c (ha c rfl)) (hB c2 (hb c2 rfl)) (Array.size_pos_iff.2 (ha c rfl)) (Array.size_pos_iff.2 (hb c2 rfl))
theorem ask2 (hp : P.underlying t = some (.pointer e)) (hi : P.info? e = some i) (hsz : i.size ≠ 0) (F : Nat → Array Value) (hB : ∀ x, F x ≠ #[] → Blk w x (F x)) {q : Option Nat} (hq : ∀ c, q = some c → F c ≠ #[]) :
    ∀ (es : List MapEntry) (L : List (Option Nat × Value)) (j : Nat), es.map me = L.map pe → (∀ x ∈ L, ∀ c, x.1 = some c → F c ≠ #[]) →
      ∃ r, (Instr.findAsking t (pk q) es j).run P w = .ok r w ∧ ((r = none ∧ ∀ x ∈ L, x.1 ≠ q) ∨ ∃ k u, r = some (k, u) ∧ j ≤ k ∧ L[k - j]? = some (q, u)) := by
  intro es
  induction es with
  | nil =>
    intro L j h _
    obtain rfl : L = [] := by cases L with
      | nil => rfl
      | cons _ _ => simp at h
    exact ⟨none, rfl, .inl ⟨rfl, by simp⟩⟩
  | cons y es ih =>
    intro L j h hL
    cases L with
    | nil => simp at h
    | cons x L =>
      simp only [List.map_cons, List.cons.injEq] at h
      obtain ⟨hy, hr⟩ := h
      have hk : y.key = pk x.1 := congrArg Prod.fst hy
      have hv : y.val = x.2 := congrArg Prod.snd hy
      have e1 : (Op.equal t (pk q) y.key).run P w = .ok (decide (x.1 = q)) w := by
        rw [hk]
        exact eqIn_pk 9999 hp hi hsz F hB hq (hL x (by simp))
      by_cases s : x.1 = q
      · rw [decide_eq_true s] at e1
        refine ⟨some (j, y.val), ?_, .inr ⟨j, y.val, rfl, Nat.le_refl _, ?_⟩⟩
        · simp [Instr.findAsking, e1]
        · rw [Nat.sub_self, hv, ← s]; rfl
      · rw [decide_eq_false s] at e1
        obtain ⟨r, h1, h2⟩ := ih L (j + 1) hr (fun z hz => hL z (by simp [hz]))
        refine ⟨r, ?_, ?_⟩
        · simp [Instr.findAsking, e1, h1]
        · rcases h2 with ⟨h3, h4⟩ | ⟨k, u, h3, h4, h5⟩
          · left
            refine ⟨h3, fun z hz => ?_⟩
            rcases List.mem_cons.1 hz with rfl | hz
            · exact s
            · exact h4 z hz
          · right
            refine ⟨k, u, h3, by omega, ?_⟩
            rw [show k - j = (k - (j + 1)) + 1 by omega]
            simpa using h5
theorem find2 (hp : P.underlying t = some (.pointer e)) (hi : P.info? e = some i) (hsz : i.size ≠ 0) (F : Nat → Array Value) (hB : ∀ x, F x ≠ #[] → Blk w x (F x)) {q : Option Nat} (hq : ∀ c, q = some c → F c ≠ #[])
    (es : List MapEntry) (L : List (Option Nat × Value)) (h : es.map me = L.map pe) (hL : ∀ x ∈ L, ∀ c, x.1 = some c → F c ≠ #[]) :
    ∃ r, (Instr.findKey t (pk q) es).run P w = .ok r w ∧ ((r = none ∧ ∀ x ∈ L, x.1 ≠ q) ∨ ∃ k u, r = some (k, u) ∧ L[k]? = some (q, u)) := by
  obtain ⟨r, h1, h2⟩ := ask2 hp hi hsz F hB hq es L 0 h hL
  refine ⟨r, ?_, ?_⟩
  · cases hes : es with
    | nil =>
      rw [hes] at h1
      simp only [Instr.findAsking] at h1
      simp [Instr.findKey, run_underlying hp, Result.andThen, Instr.findNow]
      simpa using h1
    | cons y l =>
      rw [hes] at h1
      have hs : ∀ v, Instr.sameNow (.pointer e) (pk q) v = none := fun v => by cases q <;> simp [pk, bp, Instr.sameNow]
      simp [Instr.findKey, run_underlying hp, Result.andThen, Instr.findNow, hs, h1]
  · rcases h2 with h2 | ⟨k, u, h3, h4, h5⟩
    · exact .inl h2
    · exact .inr ⟨k, u, h3, by simpa using h5⟩
theorem check_pk (b : Bool) (hp : P.underlying t = some (.pointer e)) (q : Option Nat) : (Instr.checkKey b 10000 t (pk q)).run P w = .ok () w := by
  rw [show (10000 : Nat) = 9999 + 1 from rfl]
  unfold Instr.checkKey
  simp only [Sem.run_bind, run_underlying hp, Result.andThen]
  rfl
end
theorem at_key {L : List (Option Nat × Value)} (nd : (L.map (·.1)).Nodup) {a b : Nat} {x y : Option Nat × Value} (ha : L[a]? = some x) (hb : L[b]? = some y) (e : x.1 = y.1) : a = b := by
  obtain ⟨h1, rfl⟩ := List.getElem?_eq_some_iff.1 ha
  obtain ⟨h2, rfl⟩ := List.getElem?_eq_some_iff.1 hb
  exact (List.getElem_inj (h₀ := by simpa using h1) (h₁ := by simpa using h2) nd).1 (by simpa using e)
section
variable {w : World} {t k0 e0 el : TypeId} {i : TypeInfo} {b : Nat} {L : List (Option Nat × Value)}
/-- A look-up. -/
theorem PM.look {P : Program} (h : PM w b L) (ht : P.underlying t = some (.map k0 el)) (hp : P.underlying k0 = some (.pointer e0)) (hi : P.info? e0 = some i) (hsz : i.size ≠ 0) {z : Value} (hz : (zeroValue el).run P w = .ok z w)
    (F : Nat → Array Value) (hB : ∀ x, F x ≠ #[] → Blk w x (F x)) {q : Option Nat} (hq : ∀ c, q = some c → F c ≠ #[]) (hL : ∀ x ∈ L, ∀ c, x.1 = some c → F c ≠ #[]) (co : Bool) :
    (∀ u, (q, u) ∈ L → (Instr.lookup t (.map (some b)) (pk q) co).run P w = .ok (if co = true then .tuple #[u, .bool true] else u) w) ∧
    ((∀ x ∈ L, x.1 ≠ q) → (Instr.lookup t (.map (some b)) (pk q) co).run P w = .ok (if co = true then .tuple #[z, .bool false] else z) w) := by
  obtain ⟨es, cl, h1, h2, h3, h4⟩ := h.ex
  obtain ⟨r, f1, f2⟩ := find2 hp hi hsz F hB hq es.toList L h2 hL
  have hk := fun bb => check_pk (w := w) bb hp q
  constructor
  · intro u hu
    rcases f2 with ⟨_, f3⟩ | ⟨k, u2, rfl, f3⟩
    · exact absurd rfl (f3 _ hu)
    · obtain ⟨a, ha⟩ := List.mem_iff_getElem?.1 hu
      have := at_key h.nd ha f3 rfl
      subst this
      rw [ha] at f3
      cases f3
      cases co <;> simp [Instr.lookup, run_underlying ht, MapKept.run_getObj_map h1, hk, f1, Result.andThen]
  · intro hn
    rcases f2 with ⟨rfl, _⟩ | ⟨k, u2, rfl, f3⟩
    · cases co <;> simp [Instr.lookup, run_underlying ht, MapKept.run_getObj_map h1, hk, f1, hz, Result.andThen]
    · exact absurd rfl (hn _ (List.mem_of_getElem? f3))
/-- A store. -/
theorem PM.put {P : Program} (h : PM w b L) (ht : P.underlying t = some (.map k0 el)) (hp : P.underlying k0 = some (.pointer e0)) (hi : P.info? e0 = some i) (hsz : i.size ≠ 0)
    (F : Nat → Array Value) (hB : ∀ x, F x ≠ #[] → Blk w x (F x)) {q : Option Nat} (hq : ∀ c, q = some c → F c ≠ #[]) (hL : ∀ x ∈ L, ∀ c, x.1 = some c → F c ≠ #[]) (v : Value) :
    ∃ w' L', (Instr.mapUpdate t (.map (some b)) (pk q) v).run P w = .ok () w' ∧ PM w' b L' ∧ (∀ x, x ∈ L' ↔ x = (q, v) ∨ (x ∈ L ∧ x.1 ≠ q)) ∧ Mod (fun i => i = b) w w' := by
  have hl := h.lt
  obtain ⟨es, cl, h1, h2, h3, h4⟩ := h.ex
  obtain ⟨r, f1, f2⟩ := find2 hp hi hsz F hB hq es.toList L h2 hL
  have hk := fun bb => check_pk (w := w) bb hp q
  rcases f2 with ⟨rfl, f3⟩ | ⟨k, u, rfl, f3⟩
  · refine ⟨_, L ++ [(q, v)], ?_, ⟨⟨es.push { key := pk q, val := v, born := cl }, cl + 1, ?_, ?_, ?_, ?_⟩, ?_⟩, ?_, mod_set w b (.map (es.push { key := pk q, val := v, born := cl }) (cl + 1))⟩
    · simp [Instr.mapUpdate, run_underlying ht, MapKept.run_getObj_map h1, hk, f1, MapKept.run_setObj_map _ h1, Result.andThen]
    · simp [hl]
    · simp [h2, me, pe]
    · intro x hx
      simp at hx
      rcases hx with hx | rfl
      · have := h3 x (by simpa using hx); omega
      · exact Nat.lt_succ_self _
    · rw [Array.toList_push, List.map_append, List.nodup_append]
      refine ⟨h4, by simp, ?_⟩
      rintro a ha c hc rfl
      obtain ⟨x, hx, rfl⟩ := List.mem_map.1 ha
      have := h3 x hx
      simp at hc
      omega
    · rw [List.map_append, List.nodup_append]
      refine ⟨h.nd, by simp, ?_⟩
      rintro a ha c hc rfl
      obtain ⟨x, hx, rfl⟩ := List.mem_map.1 ha
      simp at hc
      exact f3 x hx hc
    · intro x
      rw [List.mem_append, List.mem_singleton]
      exact ⟨fun hx => hx.elim (fun hx => .inr ⟨hx, f3 x hx⟩) .inl, fun hx => hx.elim .inr (fun hx => .inl hx.1)⟩
  · have hkL := (List.getElem?_eq_some_iff.1 f3).1
    have hlen : es.toList.length = L.length := by have := congrArg List.length h2; simpa using this
    obtain ⟨ent, hent⟩ : ∃ ent, es[k]? = some ent := ⟨_, Array.getElem?_eq_getElem (by rw [Array.length_toList] at hlen; omega)⟩
    have hkey : ent.key = pk q := by
      have := congrArg (fun l => l[k]?) h2
      simp [hent, f3, me, pe] at this
      exact this.1
    have hst : (Instr.keyThatStays (((es[k]?).map (·.key)).getD (pk q)) (pk q)).run P w = .ok (pk q) w := by
      rw [hent]
      simp only [Option.map, Option.getD, hkey]
      unfold Instr.keyThatStays
      have : Instr.sameBits 10000 (pk q) (pk q) = true := by cases q <;> simp [pk, bp, Instr.sameBits]
      rw [if_pos this]; rfl
    have hmod : (es.modify k fun e => { e with key := pk q, val := v }).toList.map (·.born) = es.toList.map (·.born) := by
      apply List.ext_getElem?
      intro j
      simp [Array.getElem?_modify]
      by_cases s : k = j
      · subst s; simp [hent]
      · simp [s]
    refine ⟨_, L.set k (q, v), ?_, ⟨⟨es.modify k fun e => { e with key := pk q, val := v }, cl, ?_, ?_, ?_, ?_⟩, ?_⟩, ?_, mod_set w b (.map (es.modify k fun e => { e with key := pk q, val := v }) cl)⟩
    · simp [Instr.mapUpdate, run_underlying ht, MapKept.run_getObj_map h1, hk, f1, hst, MapKept.run_setObj_map _ h1, Result.andThen]
    · simp [hl]
    · apply List.ext_getElem?
      intro j
      have hj := congrArg (fun l => l[j]?) h2
      simp at hj
      simp [Array.getElem?_modify, List.getElem?_set]
      by_cases s : k = j
      · subst s; simp [hent, hkL, me, pe]
      · simp [s, hj]
    · intro x hx
      have hb : x.born ∈ (es.modify k fun e => { e with key := pk q, val := v }).toList.map (·.born) := List.mem_map.2 ⟨x, hx, rfl⟩
      rw [hmod] at hb
      obtain ⟨y, hy, e⟩ := List.mem_map.1 hb
      rw [← e]; exact h3 y hy
    · rw [hmod]; exact h4
    · have : (L.set k (q, v)).map (·.1) = L.map (·.1) := by
        apply List.ext_getElem?
        intro j
        simp [List.getElem?_set]
        by_cases s : k = j
        · subst s; simp [hkL, (List.getElem?_eq_some_iff.1 f3).2]
        · simp [s]
      rw [this]; exact h.nd
    · intro x
      rw [List.mem_iff_getElem?]
      constructor
      · rintro ⟨j, hj⟩
        rw [List.getElem?_set] at hj
        by_cases s : k = j
        · subst s
          rw [if_pos rfl, if_pos hkL] at hj
          exact .inl (Option.some.inj hj).symm
        · rw [if_neg s] at hj
          exact .inr ⟨List.mem_of_getElem? hj, fun r => s (at_key h.nd f3 hj r.symm)⟩
      · rintro (rfl | ⟨hx, hne⟩)
        · exact ⟨k, by rw [List.getElem?_set, if_pos rfl, if_pos hkL]⟩
        · obtain ⟨j, hj⟩ := List.mem_iff_getElem?.1 hx
          have s : ¬ k = j := fun r => by
            subst r
            rw [f3] at hj
            cases hj
            exact hne rfl
          exact ⟨j, by rw [List.getElem?_set, if_neg s]; exact hj⟩
end
/-! ### range -/
def PR (w : World) (b r : Nat) (L left : List (Option Nat × Value)) : Prop :=
  ∃ es clock seen, w.heap[b]? = some (.map es clock) ∧ w.heap[r]? = some (.mapIter (some b) clock seen clock) ∧ es.toList.map me = L.map pe ∧ (∀ e ∈ es.toList, e.born < clock) ∧ (es.toList.map (·.born)).Nodup ∧ (L.map (·.1)).Nodup ∧
    (leftOf es seen).toList.map me = left.map pe
theorem PR.lt {w : World} {b r : Nat} {L left : List (Option Nat × Value)} (h : PR w b r L left) : b < w.heap.size ∧ r < w.heap.size := by
  obtain ⟨es, cl, seen, h1, h2, _⟩ := h
  exact ⟨(Array.getElem?_eq_some_iff.1 h1).1, (Array.getElem?_eq_some_iff.1 h2).1⟩
theorem PR.mod {S : Nat → Prop} {w w' : World} {b r : Nat} {L left : List (Option Nat × Value)} (h : PR w b r L left) (M : Mod S w w') (hs : ¬ S b) (hr : ¬ S r) : PR w' b r L left := by
  obtain ⟨hl, hl2⟩ := h.lt
  obtain ⟨es, cl, seen, h1, h2, e⟩ := h
  exact ⟨es, cl, seen, by rw [M.block b hl hs]; exact h1, by rw [M.block r hl2 hr]; exact h2, e⟩
section
variable {P : Program} {w : World} {ops : Array Oper} {rest : List Oper} {o : Oper} {a : Act} {Q : Exit → Act → World → Prop} {b r : Nat} {L left : List (Option Nat × Value)}
theorem leftOf_empty (es : Array MapEntry) : leftOf es #[] = es := by
  unfold leftOf
  exact Array.filter_eq_self.2 (fun x _ => by simp)
theorem PM.range {t k0 el : TypeId} (h : PM w b L) (ht : P.underlying t = some (.map k0 el)) :
    ∃ w', (Instr.range t (.map (some b))).run P w = .ok (.pointer (some ⟨w.heap.size, 0, none⟩)) w' ∧ PR w' b w.heap.size L L ∧ Same w w' ∧ w'.heap.size = w.heap.size + 1 := by
  have hl := h.lt
  obtain ⟨es, cl, h1, h2, h3, h4⟩ := h.ex
  refine ⟨w.alloc (.mapIter (some b) cl #[] cl), ?_, ⟨es, cl, #[], ?_, ?_, h2, h3, h4, h.nd, by rw [leftOf_empty]; exact h2⟩, (Mod.refl _ _).alloc _, by simp⟩
  · simp [Instr.range, run_underlying ht, MapKept.run_getObj_map h1, Result.andThen, go_sem]
  · rw [((Mod.refl (fun _ => False) w).alloc (.mapIter (some b) cl #[] cl)).block b hl (fun q => q)]; exact h1
  · exact (MapKept.heap_alloc w _).1
theorem wpList_range_pm {t k0 el : TypeId} (hg : o.guard = none) (m : Operand) (hop : o.op = Op.range t m) (ht : P.underlying t = some (.map k0 el)) (hm : a.eval m = .map (some b)) (h : PM w b L)
    (hK : ∀ w', PR w' b w.heap.size L L → Same w w' → w'.heap.size = w.heap.size + 1 → wpList P ops Q rest (a.put o.dst (.pointer (some ⟨w.heap.size, 0, none⟩))) w') :
    wpList P ops Q (o :: rest) a w := by
  refine wpList_plain hg fun K' hK' => ?_
  obtain ⟨w', hrun, r1, r2, r3⟩ := h.range ht
  unfold Oper.wp
  simp [execOp, hop, hm, hrun, Result.andThen]
  exact hK' _ _ (hK w' r1 r2 r3)
theorem left_mem {es : Array MapEntry} {seen : Array Nat} {e : MapEntry} : e ∈ (leftOf es seen).toList ↔ e ∈ es.toList ∧ ¬ e.born ∈ seen.toList := by
  unfold leftOf
  simp
theorem left_push (es : Array MapEntry) (seen : Array Nat) (x : Nat) : (leftOf es (seen.push x)).toList = (leftOf es seen).toList.filter (fun e => !decide (e.born = x)) := by
  unfold leftOf
  rw [Array.toList_filter, Array.toList_filter, List.filter_filter]
  apply List.filter_congr
  intro e _
  by_cases s : e.born = x
  · simp [s]
  · simp [s]
theorem wpList_next_pm (hg : o.guard = none) (it : Operand) (hop : o.op = Op.next it false) (hit : a.eval it = .pointer (some ⟨r, 0, none⟩)) (hbr : b ≠ r) (h : PR w b r L left)
    (hDone : left = [] → wpList P ops Q rest (a.put o.dst (.tuple #[.bool false])) w)
    (hMore : ∀ (x : Option Nat × Value) (w' : World) (left' : List (Option Nat × Value)), x ∈ left → x ∈ L → PR w' b r L left' → (∀ y, y ∈ left' ↔ y ∈ left ∧ y.1 ≠ x.1) → left'.length < left.length → Mod (fun i => i = r) w w' → w'.heap.size = w.heap.size →
      (Instr.entry (.pointer (some ⟨r, 0, none⟩))).run P w' = .ok (.tuple #[pk x.1, x.2]) w' → wpList P ops Q rest (a.put o.dst (.tuple #[.bool true, pk x.1, x.2])) w') :
    wpList P ops Q (o :: rest) a w := by
  refine wpList_plain hg fun K' hK' => ?_
  unfold Oper.wp
  obtain ⟨hl1, hl2⟩ := h.lt
  obtain ⟨es, cl, seen, h1, h2, h3, h4, h5, h6, h7⟩ := h
  rcases run_next_at (P := P) w o.type r b cl cl seen es cl h2 h1 h4 (Nat.le_refl _) with ⟨h0, hrun⟩ | ⟨e, he, w1, hw1, hrun⟩
  · simp [execOp, hop, hit, hrun, Result.andThen]
    refine hK' _ _ (hDone ?_)
    have := congrArg List.length h7
    simp [h0] at this
    exact List.eq_nil_of_length_eq_zero this.symm
  · obtain ⟨k, hk⟩ := List.mem_iff_getElem?.1 he
    have hx := congrArg (fun l => l[k]?) h7
    simp only [List.getElem?_map, hk, Option.map_some] at hx
    obtain ⟨x, hxl, hxe⟩ := Option.map_eq_some_iff.1 hx.symm
    have hmem : ∀ y : Option Nat × Value, y ∈ left → y ∈ L := fun y hy => by
      have h8 : pe y ∈ left.map pe := List.mem_map.2 ⟨y, hy, rfl⟩
      rw [← h7] at h8
      obtain ⟨e2, he2, e3⟩ := List.mem_map.1 h8
      have h9 : me e2 ∈ es.toList.map me := List.mem_map.2 ⟨e2, (left_mem.1 he2).1, rfl⟩
      rw [h3, e3] at h9
      obtain ⟨z, hz, e4⟩ := List.mem_map.1 h9
      have : z = y := by
        unfold pe at e4
        injection e4 with q1 q2
        exact Prod.ext (pk_inj q1) q2
      rw [← this]; exact hz
    have M : Mod (fun i => i = r) w (ChangeMaps.setBlock w1 r (.mapIter (some b) cl (seen.push e.born) cl)) := by
      have hM1 : Mod (fun i => i = r) w w1 := by rcases hw1 with rfl | rfl; exact Mod.refl _ _; exact (Mod.refl _ _).drew
      exact hM1.trans (mod_set w1 r _)
    have hb' := M.block b hl1 hbr
    have hr' : (ChangeMaps.setBlock w1 r (.mapIter (some b) cl (seen.push e.born) cl)).heap[r]? = some (.mapIter (some b) cl (seen.push e.born) cl) := by
      have : r < w1.heap.size := by rcases hw1 with rfl | rfl <;> exact hl2
      simp [ChangeMaps.setBlock, this]
    have hborn : ∀ e2 ∈ (leftOf es seen).toList, (e2.born = e.born ↔ me e2 = me e) := fun e2 he2 => by
      constructor
      · intro q
        have q1 := find_born e es.toList h5 (left_mem.1 he).1
        have q2 := find_born e2 es.toList h5 (left_mem.1 he2).1
        rw [q, q1] at q2
        cases q2; rfl
      · intro q
        obtain ⟨i1, hi1⟩ := List.mem_iff_getElem?.1 (left_mem.1 he).1
        obtain ⟨i2, hi2⟩ := List.mem_iff_getElem?.1 (left_mem.1 he2).1
        have a1 := congrArg (fun l => l[i1]?) h3
        have a2 := congrArg (fun l => l[i2]?) h3
        simp only [List.getElem?_map, hi1, hi2, Option.map_some] at a1 a2
        obtain ⟨y1, b1, c1⟩ := Option.map_eq_some_iff.1 a1.symm
        obtain ⟨y2, b2, c2⟩ := Option.map_eq_some_iff.1 a2.symm
        have : i1 = i2 := at_key h6 b1 b2 (by
          have := c1.trans (q.symm.trans c2.symm)
          unfold pe at this
          injection this with q1 _
          exact pk_inj q1)
        subst this
        rw [hi1] at hi2
        cases hi2; rfl
    have hxe' : me e = pe x := hxe.symm
    have hke : e.key = pk x.1 := congrArg Prod.fst hxe'
    have hve : e.val = x.2 := congrArg Prod.snd hxe'
    have hlx : x ∈ left := List.mem_of_getElem? hxl
    have hnew : (leftOf es (seen.push e.born)).toList.map me = (left.filter fun y => !decide (y.1 = x.1)).map pe := by
      rw [left_push]
      have gen : ∀ (A : List MapEntry) (B : List (Option Nat × Value)), A.map me = B.map pe → (∀ e2 ∈ A, (e2.born = e.born ↔ me e2 = me e)) → (∀ y ∈ B, (y.1 = x.1 ↔ y = x)) →
          (A.filter fun e2 => !decide (e2.born = e.born)).map me = (B.filter fun y => !decide (y.1 = x.1)).map pe := by
        intro A
        induction A with
        | nil =>
          intro B hB _ _
          obtain rfl : B = [] := by cases B with
            | nil => rfl
            | cons _ _ => simp at hB
          rfl
        | cons a1 A ih =>
          intro B hB hA hx2
          cases B with
          | nil => simp at hB
          | cons y B =>
            simp only [List.map_cons, List.cons.injEq] at hB
            have ih := ih B hB.2 (fun e2 he2 => hA e2 (by simp [he2])) (fun z hz => hx2 z (by simp [hz]))
            have q1 : a1.born = e.born ↔ y.1 = x.1 := by
              rw [hA a1 (by simp), hx2 y (by simp), hB.1, hxe']
              exact ⟨fun q => by unfold pe at q; injection q with q3 q4; exact Prod.ext (pk_inj q3) q4, fun q => by rw [q]⟩
            rw [List.filter_cons, List.filter_cons]
            by_cases s : y.1 = x.1
            · rw [if_neg (by simp [q1.2 s]), if_neg (by simp [s])]; exact ih
            · have s2 : ¬ a1.born = e.born := fun q => s (q1.1 q)
              rw [if_pos (by simp [s2]), if_pos (by simp [s]), List.map_cons, List.map_cons, hB.1, ih]
      refine gen _ _ h7 hborn (fun y hy => ⟨fun q => ?_, fun q => by rw [q]⟩)
      obtain ⟨i1, hi1⟩ := List.mem_iff_getElem?.1 (hmem y hy)
      obtain ⟨i2, hi2⟩ := List.mem_iff_getElem?.1 (hmem x hlx)
      have := at_key h6 hi1 hi2 q
      subst this
      rw [hi1] at hi2
      exact Option.some.inj hi2
    simp [execOp, hop, hit, hrun, Result.andThen]
    rw [hke, hve]
    refine hK' _ _ (hMore x _ (left.filter fun y => !decide (y.1 = x.1)) hlx (hmem x hlx) ⟨es, cl, seen.push e.born, hb'.trans h1, hr', h3, h4, h5, h6, hnew⟩ (fun y => by simp) ?_ M ?_ ?_)
    · exact List.length_filter_lt_length_iff_exists.2 ⟨x, hlx, by simp⟩
    · have := M.size
      rcases hw1 with rfl | rfl <;> simp [ChangeMaps.setBlock]
    · have := run_entry_at (P := P) _ r b cl seen es cl e hr' (hb'.trans h1) (left_mem.1 he).1 h5
      rw [hke, hve] at this
      exact this
end
end Go.Proofs.YtlcepoagpocadaaGreatDoor
set_option maxRecDepth 100000
/- A copy of a row of texts. -/
namespace Go.Proofs.YtlcepoagpocadaaGreatDoor
open Go Go.RowKit
theorem txF_map (xs : List (List UInt8)) (i : Nat) (hi : i < xs.length) : (xs.map strV).getD i undef = txF xs i := by
  unfold txF strV
  rw [List.getD_eq_getElem?_getD, List.getElem?_map, List.getElem?_eq_getElem hi, List.getD_eq_getElem?_getD, List.getElem?_eq_getElem hi]; rfl
theorem nil32 (W : World) (a : Addr) (n c : Nat) : (binOp BinOp.eql 32 (.slice (some a) n c) (.slice none 0 0)).run Tryz.prog W = .ok (.bool false) W := by kernel_rfl
set_option maxHeartbeats 4000000 in
theorem clone70 (w : World) (g cap : Nat) (xs : List (List UInt8)) (hn : 0 < xs.length) (h64 : xs.length ≤ 100000) (hr : RowV w g xs.length (txF xs)) :
    Calls Tryz.prog 70 #[.slice (some ⟨g, 0, none⟩) xs.length cap] w fun e w' => ∃ g' cap', e = .returned (.slice (some ⟨g', 0, none⟩) xs.length cap') ∧ RowV w' g' xs.length (txF xs) ∧ w.heap.size ≤ g' ∧ Same w w' := by
  refine opq fun R HR => ?_
  have HRw := Lib.hid hr
  obtain ⟨i0, hi, hz0, hz1, hz2⟩ := info_parts info9
  have I0 := Lib.hid hi
  have Z0 := Lib.hid hz0
  have Z1 := Lib.hid hz1
  have Z2 := Lib.hid hz2
  obtain ⟨n, hnn⟩ : ∃ n, xs.length = n := ⟨_, rfl⟩
  rw [hnn] at hn h64 HRw HR ⊢
  have HN := Lib.hid hnn
  clear hr hi hz0 hz1 hz2 hnn
  have M0 := Lib.hid (show Same w (w.alloc (.cells #[] 9)) from (Mod.refl _ _).alloc _)
  have O0 := Lib.hid (show (w.alloc (.cells #[] 9)).ownsRow w.heap.size 9 1 (.slice (some ⟨w.heap.size, 0, none⟩) 0 0) 0 [] from ⟨rfl, .inr ⟨_, 0, #[], rfl, Nat.le_refl _, heap_new _ _, Nat.le_refl _, by unfold maxLen; omega, rfl, rfl⟩⟩)
  have HA := Lib.hid (HRw.out.mod M0.out (fun q => q))
  have HL := Lib.hid (show (xs.map strV).length = n * 1 by rw [List.length_map, HN.out, Nat.mul_one])
  have HNW := Lib.hid (show ∀ j u, (xs.map strV)[j]? = some u → (w.alloc (.cells #[] 9)).cell? (Addr.add ⟨g, 0, none⟩ j) = some u from fun j u hj => by
    have hjl : j < xs.length := by have := (List.getElem?_eq_some_iff.1 hj).1; simpa using this
    have e : Addr.add ⟨g, 0, none⟩ j = ⟨g, j, none⟩ := by simp [Addr.add]; intro q; exact q.symm
    rw [e]
    refine (HA.out.cell j (by rw [← HN.out]; exact hjl)).trans ?_
    rw [← txF_map xs j hjl, List.getD_eq_getElem?_getD, hj]; rfl)
  have H1 := Lib.hid (show ∀ u ∈ xs.map strV, u.oneCell' = true from fun u hu => by obtain ⟨s, _, rfl⟩ := List.mem_map.1 hu; rfl)
  have hnil := fun W => nil32 W ⟨g, 0, none⟩ n cap
  go_enter Tryz.func70, Tryz.ntmps70
  go_wp2_with (at_builtin; refine wpList_append_own _ rfl (.tmp 5) (.tmp 6) 32 rfl w.heap.size 9 i0 (.string ⟨#[]⟩) 1 16 Tryz.underlying32 I0.out Z0.out Z1.out Z2.out rfl (by decide) _ _ _ rfl O0.out ⟨g, 0, none⟩ n cap (xs.map strV) rfl HL.out HNW.out H1.out (by unfold maxLen; omega) (by omega) (by simp only [World.size_alloc]; omega) ?_; intro v3 w3 hown' hgrow _; have OW := Lib.hid hown'; have MG := Lib.hid (show Same w w3 from M0.out.grown hgrow (fun k hk hlt => by cases hk; exact absurd hlt (Nat.lt_irrefl _))); clear hown' hgrow)
  go_wp2
  have hO := OW.out
  rw [Nat.zero_add, List.nil_append] at hO
  obtain ⟨g', c', rfl, hb, hc, hrow⟩ := RowV.of_owns hO hn
  rw [Nat.mul_one] at hrow
  exact HR.out _ _ ⟨g', c', rfl, hrow.congr (fun i hi => txF_map xs i (by rw [HN.out]; exact hi)), hb, MG.out⟩
end Go.Proofs.YtlcepoagpocadaaGreatDoor
/- What a copy of a state is: plain laws. -/
namespace Go.Proofs.YtlcepoagpocadaaGreatDoor
open Go Go.RowKit
theorem sorted_eq {γ : Type} (key : γ → Int) : ∀ {L1 L2 : List γ}, L1.Pairwise (fun a b => key a < key b) → L2.Pairwise (fun a b => key a < key b) → (∀ x, x ∈ L1 ↔ x ∈ L2) → L1 = L2
  | [], [], _, _, _ => rfl
  | [], y :: r, _, _, h => by have := (h y).2 (by simp); cases this
  | x :: r, [], _, _, h => by have := (h x).1 (by simp); cases this
  | x :: r, y :: s, h1, h2, h => by
    obtain ⟨a1, a2⟩ := List.pairwise_cons.1 h1
    obtain ⟨b1, b2⟩ := List.pairwise_cons.1 h2
    have e : x = y := by
      rcases List.mem_cons.1 ((h x).1 (by simp)) with q | q
      · exact q
      · rcases List.mem_cons.1 ((h y).2 (by simp)) with q2 | q2
        · exact q2.symm
        · have := a1 y q2
          have := b1 x q
          omega
    subst e
    rw [sorted_eq key a2 b2 (fun z => ?_)]
    constructor
    · intro hz
      rcases List.mem_cons.1 ((h z).1 (by simp [hz])) with q | q
      · rw [q] at hz
        have := a1 x hz; omega
      · exact q
    · intro hz
      rcases List.mem_cons.1 ((h z).2 (by simp [hz])) with q | q
      · rw [q] at hz
        have := b1 x hz; omega
      · exact q
/-- A volume is another's copy: A names each chunk's copy. -/
structure CpV (A : List (Nat × Nat)) (v u : Vo) : Prop where
  id : u.id = v.id
  size : u.size = v.size
  fr : u.fr = v.fr
  pin : u.pin = v.pin
  one : ∀ x ∈ u.pl, ∃ c, (x.1, c) ∈ v.pl ∧ (c, x.2) ∈ A
  two : ∀ x ∈ v.pl, ∃ d, (x.1, d) ∈ u.pl ∧ (x.2, d) ∈ A
  rise : Rise u.pl
theorem CpV.mono {A A' : List (Nat × Nat)} {v u : Vo} (h : CpV A v u) (hA : ∀ x ∈ A, x ∈ A') : CpV A' v u :=
  ⟨h.id, h.size, h.fr, h.pin, fun x hx => let ⟨c, a, b⟩ := h.one x hx; ⟨c, a, hA _ b⟩, fun x hx => let ⟨d, a, b⟩ := h.two x hx; ⟨d, a, hA _ b⟩, h.rise⟩
def fA (A : List (Nat × Nat)) (c : Nat) : Nat := ((A.find? fun x => decide (x.1 = c)).map (·.2)).getD 0
theorem fA_mem {A : List (Nat × Nat)} (nd : (A.map (·.1)).Nodup) {x : Nat × Nat} (hx : x ∈ A) : fA A x.1 = x.2 := by
  induction A with
  | nil => cases hx
  | cons y r ih =>
    rw [List.map_cons, List.nodup_cons] at nd
    unfold fA
    rw [List.find?_cons]
    by_cases q : y.1 = x.1
    · rw [decide_eq_true q]
      rcases List.mem_cons.1 hx with e | e
      · rw [e]; rfl
      · exact absurd (List.mem_map.2 ⟨x, e, q.symm⟩) nd.1
    · rw [decide_eq_false q]
      rcases List.mem_cons.1 hx with e | e
      · exact absurd (by rw [e]) q
      · exact ih nd.2 e
theorem copy_iso {S T : MS} {A : List (Nat × Nat)} (WS : Wf S) (nd : T.vols.Pairwise fun a b => a.id < b.id) (ek : T.k = S.k) (hA : (A.map (·.1)).Nodup) (inj : ∀ x ∈ A, ∀ y ∈ A, x.2 = y.2 → x.1 = y.1)
    (sec : ∀ x ∈ A, T.sec x.2 = S.sec x.1) (h1 : ∀ u ∈ T.vols, ∃ v ∈ S.vols, CpV A v u) (h2 : ∀ v ∈ S.vols, ∃ u ∈ T.vols, CpV A v u) : Iso S T (fA A) ∧ Wf T := by
  have key : ∀ v ∈ S.vols, ∀ u, CpV A v u → stripV u = renV (fA A) v := fun v hv u h => by
    have hp : u.pl = renL (fA A) v.pl := by
      refine sorted_eq (fun x : Int × Nat => x.1) h.rise ?_ (fun x => ?_)
      · unfold renL
        exact List.pairwise_map.2 (WS.rise v hv)
      · unfold renL
        rw [List.mem_map]
        constructor
        · intro hx
          obtain ⟨c, a, b⟩ := h.one x hx
          exact ⟨(x.1, c), a, by dsimp only; rw [fA_mem hA b]⟩
        · rintro ⟨y, hy, rfl⟩
          obtain ⟨d, a, b⟩ := h.two y hy
          rw [fA_mem hA b]; exact a
    unfold stripV renV
    rw [h.id, h.size, h.fr, h.pin, hp]
  have live : ∀ c, 0 < cnt S.vols c → (c, fA A c) ∈ A := fun c hc => by
    obtain ⟨v, hv, x, hx, rfl⟩ := cnt_pos.1 hc
    obtain ⟨u, _, hu⟩ := h2 v hv
    obtain ⟨d, _, b⟩ := hu.two x hx
    have := fA_mem hA b
    dsimp only at this
    rw [this]; exact b
  refine ⟨⟨ek, ?_, fun c d hc hd e => ?_, fun c hc => sec _ (live c hc)⟩, nd, fun u hu => ?_⟩
  · refine sorted_eq (fun x : Int × Int × Int × Bool × List (Int × Nat) => x.1) (List.pairwise_map.2 nd) (List.pairwise_map.2 WS.nd) (fun x => ?_)
    rw [List.mem_map, List.mem_map]
    constructor
    · rintro ⟨u, hu, rfl⟩
      obtain ⟨v, hv, h⟩ := h1 u hu
      exact ⟨v, hv, (key v hv u h).symm⟩
    · rintro ⟨v, hv, rfl⟩
      obtain ⟨u, hu, h⟩ := h2 v hv
      exact ⟨u, hu, key v hv u h⟩
  · exact inj _ (live c hc) _ (live d hd) e
  · obtain ⟨v, hv, h⟩ := h1 u hu
    exact h.rise
/-- A copy's counts are right. -/
theorem copy_owners {S T : MS} {f : Nat → Nat} (I : Iso S T f) {ow ow2 : Nat → Int} (h : ∀ c, 0 < cnt S.vols c → ow c = (cnt S.vols c : Int)) (h2 : ∀ c, 0 < cnt S.vols c → ow2 (f c) = ow c) (d : Nat) (hd : 0 < cnt T.vols d) : ow2 d = (cnt T.vols d : Int) := by
  obtain ⟨c, hc, rfl⟩ := cnt_strip_no I.vols hd
  rw [h2 c hc, h c hc, I.cnt hc]
end Go.Proofs.YtlcepoagpocadaaGreatDoor
/- A copy under way: the steps that change it. -/
namespace Go.Proofs.YtlcepoagpocadaaGreatDoor
open Go Go.RowKit
theorem ChO.new {H : Nat → Ob} {k : Nat} {sec : Nat → List (List UInt8)} {ow : Nat → Int} {c d : Nat} (h : ChO H k sec ow c) (hd : H d = .no) (xs : List (List UInt8)) (n : Int) : ChO H k (upd sec d xs) (upd ow d n) c := by
  obtain ⟨g, cap, h1, h2⟩ := h
  have hne : c ≠ d := fun e => by rw [e, hd] at h1; cases h1
  exact ⟨g, cap, by rw [upd_ne _ _ hne]; exact h1, by rw [upd_ne _ _ hne]; exact h2⟩
theorem ChO.more {H : Nat → Ob} {k : Nat} {sec : Nat → List (List UInt8)} {ow : Nat → Int} {c b : Nat} (h : ChO H k sec ow c) (hb : H b = .no) (o : Ob) : ChO (upd H b o) k sec ow c := by
  obtain ⟨g, cap, h1, h2⟩ := h
  have n1 : c ≠ b := fun e => by rw [e, hb] at h1; cases h1
  have n2 : g ≠ b := fun e => by rw [e, hb] at h2; cases h2
  exact ⟨g, cap, by rw [upd_ne _ _ n1]; exact h1, by rw [upd_ne _ _ n2]; exact h2⟩
theorem Abs.new {H : Nat → Ob} {m vm : Nat} {S : MS} {ow : Nat → Int} (A : Abs H m vm S ow) {d : Nat} (hd : H d = .no) (xs : List (List UInt8)) (n : Int) : Abs H m vm { S with sec := upd S.sec d xs } (upd ow d n) :=
  ⟨A.hm, A.hv, A.hb, A.hp, fun v hv x hx => (A.hc v hv x hx).new hd xs n, A.nd⟩
def encA (A : List (Nat × Nat)) : List (Option Nat × Value) := A.map fun x => (some x.1, bp x.2)
theorem mem_encA {A : List (Nat × Nat)} {q : Option Nat} {u : Value} : (q, u) ∈ encA A ↔ ∃ x ∈ A, q = some x.1 ∧ u = bp x.2 := by
  unfold encA
  rw [List.mem_map]
  exact ⟨fun ⟨x, hx, e⟩ => ⟨x, hx, (congrArg Prod.fst e).symm, (congrArg Prod.snd e).symm⟩, fun ⟨x, hx, e1, e2⟩ => ⟨x, hx, by rw [e1, e2]⟩⟩
structure CpS (S : MS) (ow : Nat → Int) (B : Nat) (w : World) (m2 vm2 ab : Nat) (H : Nat → Ob) (T : MS) (ow2 : Nat → Int) (A : List (Nat × Nat)) : Prop where
  hH : Holds Tryz.prog w H
  old : ∀ b, H b ≠ .no → B ≤ b
  abs : Abs H m2 vm2 T ow2
  k : T.k = S.k
  ag : PM w ab (encA A)
  hab : H ab = .no
  ab0 : B ≤ ab
  ch : ∀ x ∈ A, ChO H S.k T.sec ow2 x.2 ∧ T.sec x.2 = S.sec x.1 ∧ ow2 x.2 = ow x.1
  inj : ∀ x ∈ A, ∀ y ∈ A, x.2 = y.2 → x.1 = y.1
  src : ∀ x ∈ A, ∃ v ∈ S.vols, ∃ y ∈ v.pl, y.2 = x.1
section
variable {S : MS} {ow : Nat → Int} {B : Nat} {w w' : World} {m2 vm2 ab : Nat} {H : Nat → Ob} {T : MS} {ow2 : Nat → Int} {A : List (Nat × Nat)}
theorem CpS.mod {Q : Nat → Prop} (h : CpS S ow B w m2 vm2 ab H T ow2 A) (M : Mod Q w w') (hQ : ∀ b, Q b → H b = .no ∧ b ≠ ab) : CpS S ow B w' m2 vm2 ab H T ow2 A :=
  ⟨h.hH.mod M (fun b q => (hQ b q).1), h.old, h.abs, h.k, h.ag.mod M (fun q => (hQ ab q).2 rfl), h.hab, h.ab0, h.ch, h.inj, h.src⟩
theorem CpS.same (h : CpS S ow B w m2 vm2 ab H T ow2 A) (M : Same w w') : CpS S ow B w' m2 vm2 ab H T ow2 A := h.mod M (fun _ q => q.elim)
theorem CpS.keys (h : CpS S ow B w m2 vm2 ab H T ow2 A) : (A.map (·.1)).Nodup := by
  have := h.ag.nd
  unfold encA at this
  rw [List.map_map] at this
  have e : A.map ((fun x : Option Nat × Value => x.1) ∘ fun x : Nat × Nat => (some x.1, bp x.2)) = (A.map (·.1)).map some := by rw [List.map_map]; rfl
  rw [e] at this
  exact (List.pairwise_map.1 this).imp (fun q r => q (by rw [r]))
theorem CpS.not_c {c : Nat} (h : CpS S ow B w m2 vm2 ab H T ow2 A) (hn : ∀ x ∈ A, x.1 ≠ c) : ∀ x ∈ encA A, x.1 ≠ some c := fun x hx e => by
  obtain ⟨y, hy, e1, _⟩ := mem_encA.1 (show (x.1, x.2) ∈ encA A from hx)
  rw [e1] at e
  exact hn y hy (Option.some.inj e)
/-- A chunk more. -/
theorem CpS.chunk {w1 : World} (h : CpS S ow B w m2 vm2 ab H T ow2 A) {c g d cap : Nat} (M1 : Same w w1) (hg : RowV w1 g (S.sec c).length (txF (S.sec c))) (hd : Blk w1 d #[.slice (some ⟨g, 0, none⟩) S.k cap, .int .i64 (ow c)])
    (hg0 : w.heap.size ≤ g) (hd0 : w.heap.size ≤ d) (hgd : g ≠ d) (hB : B ≤ w.heap.size) (hn : ∀ x ∈ A, x.1 ≠ c) (hc : ∃ v ∈ S.vols, ∃ y ∈ v.pl, y.2 = c) (M2 : Mod (fun i => i = ab) w1 w') (ha : PM w' ab (encA A ++ [(some c, bp d)])) :
    ∃ H', CpS S ow B w' m2 vm2 ab H' { T with sec := upd T.sec d (S.sec c) } (upd ow2 d (ow c)) (A ++ [(c, d)]) ∧ (∀ b, b < w.heap.size → H' b = H b) ∧ (∀ b, H' b ≠ .no → H b ≠ .no ∨ w.heap.size ≤ b) := by
  have nog : H g = .no := h.hH.new hg0
  have nod : H d = .no := h.hH.new hd0
  have hal := h.ag.lt
  have h1 : Holds Tryz.prog w1 H := h.hH.mod M1 (fun _ q => q.elim)
  have h2 : Holds Tryz.prog w1 (upd H g (.rw d (S.sec c))) := h1.turn (Mod.refl _ _) hg
  have h3 : Holds Tryz.prog w1 (upd (upd H g (.rw d (S.sec c))) d (.cl 2 #[.slice (some ⟨g, 0, none⟩) S.k cap, .int .i64 (ow c)])) := h2.turn (Mod.refl _ _) hd
  have nod2 : upd H g (.rw d (S.sec c)) d = .no := by rw [upd_ne _ _ (fun e => hgd e.symm)]; exact nod
  have eab : upd (upd H g (.rw d (S.sec c))) d (.cl 2 #[.slice (some ⟨g, 0, none⟩) S.k cap, .int .i64 (ow c)]) ab = .no := by
    rw [upd_ne _ _ (by omega), upd_ne _ _ (by omega)]; exact h.hab
  have far : ∀ b, b < w.heap.size → upd (upd H g (.rw d (S.sec c))) d (.cl 2 #[.slice (some ⟨g, 0, none⟩) S.k cap, .int .i64 (ow c)]) b = H b := fun b hb => by
    rw [upd_ne _ _ (by omega), upd_ne _ _ (by omega)]
  have hmem : ∀ x, x ∈ A ++ [(c, d)] ↔ x ∈ A ∨ x = (c, d) := fun x => by rw [List.mem_append, List.mem_singleton]
  have hdA : ∀ x ∈ A, x.2 ≠ d := fun x hx e => by
    obtain ⟨g', cap', q1, _⟩ := (h.ch x hx).1
    rw [e, nod] at q1; cases q1
  refine ⟨_, ⟨h3.mod M2 (fun b q => by rw [q]; exact eab), fun b hb => ?_, ((h.abs.new nod (S.sec c) (ow c)).more nog).more nod2, h.k, ?_, eab, h.ab0, fun x hx => ?_, fun x hx y hy e => ?_, fun x hx => ?_⟩, far, fun b hb => ?_⟩
  · by_cases q : b < w.heap.size
    · rw [far b q] at hb; exact h.old b hb
    · omega
  · have : encA (A ++ [(c, d)]) = encA A ++ [(some c, bp d)] := by unfold encA; rw [List.map_append]; rfl
    rw [this]; exact ha
  · rcases (hmem x).1 hx with hx | rfl
    · obtain ⟨q1, q2, q3⟩ := h.ch x hx
      exact ⟨((q1.new nod _ _).more nog _).more nod2 _, by dsimp only; rw [upd_ne _ _ (hdA x hx)]; exact q2, by rw [upd_ne _ _ (hdA x hx)]; exact q3⟩
    · refine ⟨⟨g, cap, ?_, ?_⟩, by dsimp only; rw [upd_same], by dsimp only; rw [upd_same]⟩
      · dsimp only
        rw [upd_same, upd_same]
      · dsimp only
        rw [upd_ne _ _ hgd, upd_same, upd_same]
  · rcases (hmem x).1 hx with hx | rfl
    · rcases (hmem y).1 hy with hy | rfl
      · exact h.inj x hx y hy e
      · exact absurd e (hdA x hx)
    · rcases (hmem y).1 hy with hy | rfl
      · exact absurd e.symm (hdA y hy)
      · rfl
  · rcases (hmem x).1 hx with hx | rfl
    · exact h.src x hx
    · exact hc
  · by_cases q : b < w.heap.size
    · rw [far b q] at hb; exact .inl hb
    · exact .inr (by omega)
/-- A volume more. -/
theorem CpS.vol (h : CpS S ow B w m2 vm2 ab H T ow2 A) (u : Vo) (hb : Blk w u.b (volC u)) (hp : IMap Tryz.prog 3 w u.pb u.pl) (nb : H u.b = .no) (np : H u.pb = .no) (hbp : u.b ≠ u.pb) (ob : B ≤ u.b) (op : B ≤ u.pb) (eb : u.b ≠ ab) (ep : u.pb ≠ ab)
    (hpl : ∀ x ∈ u.pl, ∃ c, (c, x.2) ∈ A) (h0 : getL u.id (volsL T.vols) = none) (M : Mod (fun i => i = vm2) w w') (hv : IMap Tryz.prog 3 w' vm2 (putL u.id u.b (volsL T.vols))) :
    ∃ H', CpS S ow B w' m2 vm2 ab H' { T with vols := insV u T.vols } ow2 A ∧ (∀ b, b ≠ u.b → b ≠ u.pb → b ≠ vm2 → H' b = H b) := by
  have h1 : Holds Tryz.prog w (upd H u.b (.cl 1 (volC u))) := h.hH.turn (Mod.refl _ _) hb
  have np1 : upd H u.b (.cl 1 (volC u)) u.pb = .no := by rw [upd_ne _ _ (fun e => hbp e.symm)]; exact np
  have h2 : Holds Tryz.prog w (upd (upd H u.b (.cl 1 (volC u))) u.pb (.mp u.b u.pl)) := h1.turn (Mod.refl _ _) hp
  have A1 := (h.abs.more (o := .cl 1 (volC u)) nb).more (o := .mp u.b u.pl) np1
  have hvm := h.abs.hv
  have hvm1 : vm2 ≠ u.b := fun e => by rw [e, nb] at hvm; cases hvm
  have hvm2 : vm2 ≠ u.pb := fun e => by rw [e, np] at hvm; cases hvm
  have hva : vm2 ≠ ab := fun e => by rw [e, h.hab] at hvm; cases hvm
  have h3 := h2.turn (b := vm2) (o := .mp m2 (putL u.id u.b (volsL T.vols))) M hv
  have chk : ∀ c, ChO H S.k T.sec ow2 c → ChO (upd (upd H u.b (.cl 1 (volC u))) u.pb (.mp u.b u.pl)) S.k T.sec ow2 c := fun c q => (q.more nb _).more np1 _
  have A2 := A1.add (v := u) h0 (by rw [upd_ne _ _ hbp, upd_same]) (by rw [upd_same]) (fun x hx => by
    obtain ⟨c, hc⟩ := hpl x hx
    rw [h.k]
    exact chk _ (h.ch _ hc).1) rfl
  refine ⟨_, ⟨h3, fun b hb => ?_, A2, h.k, h.ag.mod M (fun e => hva e.symm), ?_, h.ab0, fun x hx => ?_, h.inj, h.src⟩, fun b q1 q2 q3 => ?_⟩
  · by_cases q : b = vm2
    · subst q
      exact h.old b (by rw [hvm]; simp)
    · rw [upd_ne _ _ q] at hb
      by_cases q2 : b = u.pb
      · rw [q2]; exact op
      · rw [upd_ne _ _ q2] at hb
        by_cases q3 : b = u.b
        · rw [q3]; exact ob
        · rw [upd_ne _ _ q3] at hb
          exact h.old b hb
  · rw [upd_ne _ _ (fun e => hva e.symm), upd_ne _ _ (fun e => ep e.symm), upd_ne _ _ (fun e => eb e.symm)]; exact h.hab
  · obtain ⟨q1, q2, q3⟩ := h.ch x hx
    refine ⟨(chk _ q1).far (fun i _ q => ?_), q2, q3⟩
    have : i ≠ vm2 := fun e => by
      rw [e] at q
      refine q m2 (volsL T.vols) ?_
      rw [upd_ne _ _ hvm2, upd_ne _ _ hvm1]; exact hvm
    rw [upd_ne _ _ this]
  · rw [upd_ne _ _ q3, upd_ne _ _ q2, upd_ne _ _ q1]
/-- A copy that is whole. -/
theorem CpS.done {K : Nat → Prop} (h : CpS S ow B w m2 vm2 ab H T ow2 A) (WS : Wf S) (hK : ∀ i, K i → i < B) (hBw : B ≤ w.heap.size) (h1 : ∀ u ∈ T.vols, ∃ v ∈ S.vols, CpV A v u) (h2 : ∀ v ∈ S.vols, ∃ u ∈ T.vols, CpV A v u) (ho : ∀ c, 0 < cnt S.vols c → ow c = (cnt S.vols c : Int)) :
    ∃ f, Iso S T f ∧ Wf T ∧ Md Tryz.prog K w m2 T := by
  obtain ⟨I, WT⟩ := copy_iso WS h.abs.nd h.k h.keys h.inj (fun x hx => (h.ch x hx).2.1) h1 h2
  refine ⟨_, I, WT, ow2, ⟨H, vm2, h.hH, fun b hb q => ?_, fun i q => by have := hK i q; omega, h.abs⟩, copy_owners I ho (fun c hc => ?_)⟩
  · have := h.old b hb
    have := hK b q
    omega
  · obtain ⟨v, hv, x, hx, rfl⟩ := cnt_pos.1 hc
    obtain ⟨u, _, hu⟩ := h2 v hv
    obtain ⟨d, _, hd⟩ := hu.two x hx
    have e := fA_mem h.keys hd
    dsimp only at e
    rw [e]
    exact (h.ch _ hd).2.2
end
end Go.Proofs.YtlcepoagpocadaaGreatDoor
