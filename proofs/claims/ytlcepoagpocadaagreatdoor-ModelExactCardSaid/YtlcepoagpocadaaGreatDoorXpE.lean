import Derived.Test.YtlcepoagpocadaaGreatDoorMdK
import Derived.Test.YtlcepoagpocadaaGreatDoorMeO
import Derived.BigQuiet
import Derived.Deep.DeepCutAuto
set_option linter.unusedSimpArgs false
set_option linter.unusedVariables false
/- The document's pool, in plain words: a model's state. -/
namespace Go.Proofs.YtlcepoagpocadaaGreatDoor
open Go Go.RowKit
/-- A volume of the document's. -/
structure DV where
  id : Int
  birth : Int
  size : Int
  pin : Bool
  fr : Int
  pl : List Nat
/-- The document's pool. -/
structure DP where
  k : Nat
  vols : List DV
  ch : List (List (List UInt8))
  births : Int
def plF : Nat → List Nat → List (Int × Nat)
  | _, [] => []
  | i, c :: r => if c = 0 then plF (i + 1) r else ((i : Int), c) :: plF (i + 1) r
def getP (l : List Nat) (p : Int) : Option Nat := if 0 ≤ p then (if l.getD p.toNat 0 = 0 then none else some (l.getD p.toNat 0)) else none
theorem plF_key {i : Nat} {l : List Nat} : ∀ {x : Int × Nat}, x ∈ plF i l → (i : Int) ≤ x.1 := by
  induction l generalizing i with
  | nil => intro x h; cases h
  | cons c r ih =>
    intro x h
    unfold plF at h
    split at h
    · have := ih h; omega
    · rcases List.mem_cons.1 h with rfl | h
      · exact Int.le_refl _
      · have := ih h; omega
theorem plF_rise (l : List Nat) : ∀ i, Rise (plF i l) := by
  induction l with
  | nil => intro i; exact List.Pairwise.nil
  | cons c r ih =>
    intro i
    unfold plF
    split
    · exact ih _
    · exact List.pairwise_cons.2 ⟨fun x hx => by have := plF_key hx; show (i : Int) < x.1; omega, ih _⟩
theorem getL_low {p : Int} {L : List (Int × Nat)} (h : ∀ x ∈ L, p < x.1) : getL p L = none := getL_none.2 fun x hx => by have := h x hx; omega
theorem getL_plF (l : List Nat) : ∀ (i : Nat) (p : Int), getL p (plF i l) = getP l (p - i) := by
  induction l with
  | nil => intro i p; unfold plF getP; simp [getL]
  | cons c r ih =>
    intro i p
    unfold plF
    by_cases hp : p = (i : Int)
    · subst hp
      have e : getP (c :: r) ((i : Int) - i) = if c = 0 then none else some c := by unfold getP; rw [Int.sub_self]; simp
      rw [e]
      by_cases hc : c = 0
      · rw [if_pos hc, if_pos hc]
        exact getL_low fun x hx => by have := plF_key hx; omega
      · rw [if_neg hc, if_neg hc]
        unfold getL
        rw [if_pos rfl]
    · have e : getP (c :: r) (p - i) = getP r (p - ((i + 1 : Nat) : Int)) := by
        unfold getP
        by_cases q : (i : Int) < p
        · rw [if_pos (show 0 ≤ p - (i : Int) by omega), if_pos (show 0 ≤ p - ((i + 1 : Nat) : Int) by omega)]
          obtain ⟨n, hn⟩ : ∃ n : Nat, p - i = (n : Int) + 1 := ⟨(p - i - 1).toNat, by omega⟩
          rw [show (p - (i : Int)).toNat = n + 1 by omega, show (p - ((i + 1 : Nat) : Int)).toNat = n by omega]
          simp
        · rw [if_neg (show ¬ 0 ≤ p - (i : Int) by omega), if_neg (show ¬ 0 ≤ p - ((i + 1 : Nat) : Int) by omega)]
      rw [e]
      split
      · exact ih _ _
      · unfold getL
        rw [if_neg (fun q => hp q.symm)]
        exact ih _ _
def plL (l : List Nat) : List (Int × Nat) := plF 0 l
theorem getL_plL (l : List Nat) (p : Int) : getL p (plL l) = getP l p := by
  unfold plL; rw [getL_plF]; simp
theorem rise_ext : ∀ {L L' : List (Int × Nat)}, Rise L → Rise L' → (∀ p, getL p L = getL p L') → L = L'
  | [], [], _, _, _ => rfl
  | [], y :: r, _, _, h => by
    have := h y.1
    simp [getL] at this
  | y :: r, [], _, _, h => by
    have := h y.1
    simp [getL] at this
  | x :: r, y :: r', h1, h2, h => by
    obtain ⟨a1, b1⟩ := List.pairwise_cons.1 h1
    obtain ⟨a2, b2⟩ := List.pairwise_cons.1 h2
    have e1 : x.1 = y.1 := by
      rcases Int.lt_trichotomy x.1 y.1 with q | q | q
      · exfalso
        have := h x.1
        rw [getL_low (L := y :: r') (fun z hz => by
          rcases List.mem_cons.1 hz with rfl | hz
          · exact q
          · have := a2 z hz; omega)] at this
        simp [getL] at this
      · exact q
      · exfalso
        have := h y.1
        rw [getL_low (L := x :: r) (fun z hz => by
          rcases List.mem_cons.1 hz with rfl | hz
          · exact q
          · have := a1 z hz; omega)] at this
        simp [getL] at this
    have e2 : x.2 = y.2 := by
      have := h x.1
      simpa [getL, e1] using this
    obtain rfl : x = y := Prod.ext e1 e2
    rw [rise_ext b1 b2 fun p => ?_]
    by_cases q : p = x.1
    · subst q
      rw [getL_low a1, getL_low a2]
    · have := h p
      unfold getL at this
      rw [if_neg (fun e => q e.symm), if_neg (fun e => q e.symm)] at this
      exact this
theorem getP_nat (l : List Nat) (p : Nat) : getP l (p : Int) = if l.getD p 0 = 0 then none else some (l.getD p 0) := by
  unfold getP
  rw [if_pos (by omega), Int.toNat_natCast]
theorem plL_put {l : List Nat} {p c : Nat} (hp : p < l.length) (hc : c ≠ 0) : putL (p : Int) c (plL l) = plL (l.set p c) := by
  refine rise_ext ((plF_rise l 0).put _ _) (plF_rise _ 0) fun q => ?_
  rw [getL_put, getL_plL, getL_plL]
  unfold getP
  by_cases e : q = (p : Int)
  · subst e
    rw [if_pos rfl, if_pos (by omega), Int.toNat_natCast]
    rw [List.getD_eq_getElem?_getD, List.getElem?_set_self hp]
    simp [hc]
  · rw [if_neg e]
    by_cases h0 : 0 ≤ q
    · rw [if_pos h0, if_pos h0, List.getD_eq_getElem?_getD, List.getD_eq_getElem?_getD, List.getElem?_set_ne (by omega)]
    · rw [if_neg h0, if_neg h0]
theorem plL_del {l : List Nat} {p : Nat} : delL (p : Int) (plL l) = plL (l.set p 0) := by
  refine rise_ext ((plF_rise l 0).del _) (plF_rise _ 0) fun q => ?_
  rw [getL_del, getL_plL, getL_plL]
  unfold getP
  by_cases e : q = (p : Int)
  · subst e
    rw [if_pos rfl, if_pos (by omega), Int.toNat_natCast]
    by_cases hp : p < l.length
    · rw [List.getD_eq_getElem?_getD, List.getElem?_set_self hp]; rfl
    · rw [List.getD_eq_getElem?_getD, List.getElem?_eq_none (by rw [List.length_set]; omega)]; rfl
  · rw [if_neg e]
    by_cases h0 : 0 ≤ q
    · rw [if_pos h0, if_pos h0, List.getD_eq_getElem?_getD, List.getD_eq_getElem?_getD, List.getElem?_set_ne (by omega)]
    · rw [if_neg h0, if_neg h0]
/-- Places from one on have nothing. -/
def cutP (n : Nat) (l : List Nat) : List Nat := l.take n ++ List.replicate (l.length - n) 0
theorem cutP_get (n : Nat) (l : List Nat) (i : Nat) : (cutP n l).getD i 0 = if i < n then l.getD i 0 else 0 := by
  unfold cutP
  rw [List.getD_eq_getElem?_getD, List.getD_eq_getElem?_getD]
  by_cases h : i < n
  · rw [if_pos h]
    by_cases q : i < l.length
    · rw [List.getElem?_append_left (by rw [List.length_take]; omega), List.getElem?_take_of_lt h]
    · rw [List.getElem?_append_right (by rw [List.length_take]; omega), List.getElem?_eq_none (l := l) (by omega)]
      rw [List.getElem?_replicate]; split <;> rfl
  · rw [if_neg h]
    by_cases q : i < l.length
    · rw [List.getElem?_append_right (by rw [List.length_take]; omega), List.getElem?_replicate]; split <;> rfl
    · rw [List.getElem?_eq_none (by simp; omega)]; rfl
theorem cutP_len (n : Nat) (l : List Nat) : (cutP n l).length = l.length := by unfold cutP; simp; omega
theorem Rise.filter {L : List (Int × Nat)} (h : Rise L) (P : Int × Nat → Bool) : Rise (L.filter P) := List.Pairwise.filter P h
theorem getL_trim (n : Int) (p : Int) : ∀ L : List (Int × Nat), getL p (trimL n L) = if p < n then getL p L else none
  | [] => by unfold trimL; simp [getL]
  | y :: r => by
    have ih := getL_trim n p r
    unfold trimL at ih ⊢
    rw [List.filter_cons]
    by_cases hy : y.1 < n
    · simp only [hy, decide_true, if_true, getL]
      by_cases e : y.1 = p
      · rw [if_pos e, if_pos e, if_pos (by omega)]
      · rw [if_neg e, if_neg e, ih]
    · simp only [hy, decide_false, Bool.false_eq_true, if_false, getL]
      rw [ih]
      by_cases e : y.1 = p
      · rw [if_neg (by omega), if_neg (by omega)]
      · rw [if_neg e]
theorem plL_trim (n : Nat) (l : List Nat) : trimL (n : Int) (plL l) = plL (cutP n l) := by
  refine rise_ext ((plF_rise l 0).filter _) (plF_rise _ 0) fun q => ?_
  rw [getL_trim, getL_plL, getL_plL]
  unfold getP
  by_cases h0 : 0 ≤ q
  · rw [if_pos h0, if_pos h0, cutP_get]
    by_cases e : q < (n : Int)
    · rw [if_pos e, if_pos (show q.toNat < n by omega)]
    · rw [if_neg e, if_neg (show ¬ q.toNat < n by omega)]; rfl
  · rw [if_neg h0, if_neg h0]; split <;> rfl
theorem plL_zero (n : Nat) : plL (List.replicate n 0) = [] := by
  refine rise_ext (plF_rise _ 0) List.Pairwise.nil fun q => ?_
  rw [getL_plL]
  unfold getP
  split
  · rw [List.getD_eq_getElem?_getD, List.getElem?_replicate]; split <;> rfl
  · rfl
/-- How many places have a chunk. -/
theorem cntL_plF {c : Nat} (hc : c ≠ 0) (l : List Nat) : ∀ i, cntL c (plF i l) = l.count c := by
  induction l with
  | nil => intro i; rfl
  | cons a r ih =>
    intro i
    unfold plF
    rw [List.count_cons]
    by_cases ha : a = 0
    · rw [if_pos ha, ih, if_neg (by simp; omega)]
      rfl
    · rw [if_neg ha, cntL_cons, ih]
      by_cases e : a = c
      · simp [e]; omega
      · simp [e]
theorem cntL_plL {c : Nat} (hc : c ≠ 0) (l : List Nat) : cntL c (plL l) = l.count c := cntL_plF hc l 0
theorem cntL_zero (l : List Nat) : ∀ i, cntL 0 (plF i l) = 0 := by
  induction l with
  | nil => intro i; rfl
  | cons a r ih =>
    intro i
    unfold plF
    split
    · exact ih _
    · rw [cntL_cons, ih]; simp; omega
def toVo (v : DV) : Vo := ⟨0, 0, v.id, v.size, v.fr, v.pin, plL v.pl⟩
def secD (ch : List (List (List UInt8))) (c : Nat) : List (List UInt8) := if c = 0 then [] else ch.getD (c - 1) []
def toMS (D : DP) : MS := ⟨D.k, D.vols.map toVo, secD D.ch⟩
theorem secD_push (ch : List (List (List UInt8))) (l : List (List UInt8)) : secD (ch ++ [l]) = upd (secD ch) (ch.length + 1) l := by
  funext c
  unfold secD upd
  dsimp only
  by_cases h0 : c = 0
  · rw [if_pos h0, if_pos h0, if_neg (by omega)]
  · rw [if_neg h0, if_neg h0, List.getD_eq_getElem?_getD, List.getD_eq_getElem?_getD]
    by_cases e : c = ch.length + 1
    · rw [if_pos e, List.getElem?_append_right (by omega)]
      rw [e]; simp
    · rw [if_neg e]
      by_cases q : c - 1 < ch.length
      · rw [List.getElem?_append_left q]
      · rw [List.getElem?_eq_none (by simp; omega), List.getElem?_eq_none (by omega)]
theorem secD_set (ch : List (List (List UInt8))) (c : Nat) (hc : c ≠ 0) (hl : c ≤ ch.length) (l : List (List UInt8)) : secD (ch.set (c - 1) l) = upd (secD ch) c l := by
  funext d
  unfold secD upd
  dsimp only
  by_cases h0 : d = 0
  · rw [if_pos h0, if_pos h0, if_neg (by omega)]
  · rw [if_neg h0, if_neg h0, List.getD_eq_getElem?_getD, List.getD_eq_getElem?_getD]
    by_cases e : d = c
    · subst e
      rw [if_pos rfl, List.getElem?_set_self (by omega)]; rfl
    · rw [if_neg e, List.getElem?_set_ne (by omega)]
/-- What is right of the document's pool. -/
structure DOk (D : DP) : Prop where
  k1 : 1 ≤ D.k
  k8 : D.k ≤ 8
  nd : D.vols.Pairwise fun a b => a.id < b.id
  ids : ∀ v ∈ D.vols, 1 ≤ v.id ∧ v.id ≤ 16
  sizes : ∀ v ∈ D.vols, 0 ≤ v.size ∧ v.size ≤ 64
  len : ∀ v ∈ D.vols, v.pl.length = 64
  big : ∀ v ∈ D.vols, ∀ c ∈ v.pl, c ≤ D.ch.length
  out : ∀ v ∈ D.vols, ∀ i : Nat, v.size ≤ (i : Int) → v.pl.getD i 0 = 0
  ck : ∀ l ∈ D.ch, l.length = D.k ∧ ∀ s ∈ l, s.length = 16
theorem DOk.pw {D : DP} (h : DOk D) : (toMS D).vols.Pairwise fun a b => a.id < b.id := List.pairwise_map.2 h.nd
theorem DOk.wf {D : DP} (h : DOk D) : Wf (toMS D) := ⟨h.pw, fun v hv => by
  obtain ⟨u, _, rfl⟩ := List.mem_map.1 hv
  exact plF_rise _ 0⟩
theorem getP_some {l : List Nat} {p : Int} {c : Nat} (h : getP l p = some c) : 0 ≤ p ∧ c ≠ 0 ∧ l.getD p.toNat 0 = c := by
  unfold getP at h
  split at h
  · split at h
    · cases h
    · rename_i h1 h2
      injection h with h
      exact ⟨h1, by rw [← h]; exact h2, h⟩
  · cases h
theorem getD_mem {l : List Nat} {i c : Nat} (hc : c ≠ 0) (h : l.getD i 0 = c) : c ∈ l := by
  rw [List.getD_eq_getElem?_getD] at h
  cases q : l[i]? with
  | none => rw [q] at h; exact absurd h.symm hc
  | some x => rw [q] at h; have h : x = c := h; subst h; exact List.mem_of_getElem? q
theorem mem_plL {l : List Nat} {x : Int × Nat} (h : x ∈ plL l) : 0 ≤ x.1 ∧ x.2 ≠ 0 ∧ l.getD x.1.toNat 0 = x.2 := by
  have := Rise.get (plF_rise l 0) h
  rw [show plF 0 l = plL l from rfl, getL_plL] at this
  exact getP_some this
theorem secD_at {ch : List (List (List UInt8))} {c : Nat} (hc : c ≠ 0) (hl : c ≤ ch.length) : secD ch c ∈ ch := by
  unfold secD
  rw [if_neg hc, List.getD_eq_getElem?_getD, List.getElem?_eq_getElem (by omega)]
  exact List.getElem_mem _
theorem DOk.good {D : DP} (h : DOk D) : Good (toMS D) := by
  refine ⟨h.k1, h.k8, ?_, ?_, h.wf.rise, ?_, ?_⟩
  · intro v hv; obtain ⟨u, hu, rfl⟩ := List.mem_map.1 hv; exact h.ids u hu
  · intro v hv; obtain ⟨u, hu, rfl⟩ := List.mem_map.1 hv; exact h.sizes u hu
  · intro v hv x hx
    obtain ⟨u, hu, rfl⟩ := List.mem_map.1 hv
    obtain ⟨h1, h2, h3⟩ := mem_plL hx
    refine ⟨h1, ?_⟩
    rcases Int.lt_or_le x.1 u.size with q | q
    · exact q
    · exact absurd (h.out u hu x.1.toNat (by omega)) (by rw [h3]; exact h2)
  · intro v hv x hx
    obtain ⟨u, hu, rfl⟩ := List.mem_map.1 hv
    obtain ⟨h1, h2, h3⟩ := mem_plL hx
    exact h.ck _ (secD_at h2 (h.big u hu _ (getD_mem h2 h3)))
theorem find_toVo (id : Int) : ∀ l : List DV, (l.map toVo).find? (fun v => decide (v.id = id)) = (l.find? fun v => decide (v.id = id)).map toVo
  | [] => rfl
  | v :: r => by
    rw [List.map_cons, List.find?_cons, List.find?_cons, find_toVo id r]
    show (match decide (v.id = id) with | true => _ | false => _) = _
    cases decide (v.id = id) <;> rfl
theorem DOk.at_ {D : DP} (h : DOk D) {i j : Nat} {u v : DV} (hi : D.vols[i]? = some u) (hj : D.vols[j]? = some v) (e : u.id = v.id) : i = j := by
  obtain ⟨a, rfl⟩ := List.getElem?_eq_some_iff.1 hi
  obtain ⟨b, rfl⟩ := List.getElem?_eq_some_iff.1 hj
  have := List.pairwise_iff_getElem.1 h.nd
  rcases Nat.lt_trichotomy i j with q | q | q
  · have := this i j a b q; omega
  · exact q
  · have := this j i b a q; omega
theorem DOk.find {D : DP} (h : DOk D) {i : Nat} {v : DV} (hi : D.vols[i]? = some v) : findV (toMS D) v.id = some (toVo v) := by
  unfold findV toMS
  dsimp only
  rw [find_toVo]
  cases q : D.vols.find? fun u => decide (u.id = v.id) with
  | none =>
    have := List.find?_eq_none.1 q v (List.mem_of_getElem? hi)
    simp at this
  | some u =>
    have h1 := List.mem_of_find?_eq_some q
    have h2 := List.find?_some q
    obtain ⟨j, hj⟩ := List.mem_iff_getElem?.1 h1
    have e := h.at_ hj hi (of_decide_eq_true h2)
    subst e
    rw [hi] at hj
    injection hj with hj
    rw [hj]; rfl
theorem find_noneD {D : DP} {id : Int} (h : ∀ v ∈ D.vols, v.id ≠ id) : findV (toMS D) id = none := by
  unfold findV toMS
  dsimp only
  rw [find_toVo, List.find?_eq_none.2 (fun v hv => by simpa using h v hv)]
  rfl
theorem map_set_toVo {D : DP} (h : DOk D) {i : Nat} {v v' : DV} (hi : D.vols[i]? = some v) (e : v'.id = v.id) : (D.vols.set i v').map toVo = repV (toVo v') (D.vols.map toVo) := by
  apply List.ext_getElem?
  intro j
  unfold repV
  rw [List.getElem?_map, List.map_map, List.getElem?_map]
  by_cases q : j = i
  · subst q
    rw [List.getElem?_set_self (List.getElem?_eq_some_iff.1 hi).1, hi]
    show some (toVo v') = some (if v.id = v'.id then toVo v' else toVo v)
    rw [if_pos e.symm]
  · rw [List.getElem?_set_ne (fun e => q e.symm)]
    cases hj : D.vols[j]? with
    | none => rfl
    | some u =>
      show some (toVo u) = some (if u.id = v'.id then toVo v' else toVo u)
      rw [if_neg (fun e2 => q (h.at_ hj hi (by rw [e2, e])))]
end Go.Proofs.YtlcepoagpocadaaGreatDoor
/- What the document's orders do to its pool: a model's orders. -/
namespace Go.Proofs.YtlcepoagpocadaaGreatDoor
open Go Go.RowKit
def insD (v : DV) : List DV → List DV
  | [] => [v]
  | y :: r => if v.id < y.id then v :: y :: r else y :: insD v r
theorem map_ins (v : DV) : ∀ l : List DV, (insD v l).map toVo = insV (toVo v) (l.map toVo)
  | [] => rfl
  | y :: r => by
    rw [insD, List.map_cons, insV]
    by_cases h : v.id < y.id
    · rw [if_pos h, if_pos (show (toVo v).id < (toVo y).id from h)]; rfl
    · rw [if_neg h, if_neg (show ¬ (toVo v).id < (toVo y).id from h), List.map_cons, map_ins v r]
theorem insD_at {v y : DV} {r : List DV} (hy : v.id < y.id) : ∀ {a : List DV}, (∀ z ∈ a, ¬ v.id < z.id) → insD v (a ++ y :: r) = a ++ v :: y :: r
  | [], _ => by rw [List.nil_append, insD, if_pos hy]; rfl
  | z :: a, h => by
    rw [List.cons_append, insD, if_neg (h z (by simp)), insD_at hy (fun z hz => h z (by simp [hz]))]; rfl
theorem insD_end {v : DV} : ∀ {a : List DV}, (∀ z ∈ a, ¬ v.id < z.id) → insD v a = a ++ [v]
  | [], _ => rfl
  | z :: a, h => by
    rw [insD, if_neg (h z (by simp)), insD_end (fun z hz => h z (by simp [hz]))]; rfl
theorem mem_insD {v z : DV} : ∀ {l : List DV}, z ∈ insD v l ↔ z = v ∨ z ∈ l
  | [] => by simp [insD]
  | y :: r => by
    rw [insD]
    split
    · simp
    · rw [List.mem_cons, mem_insD (l := r), List.mem_cons]
      constructor
      · rintro (h | h | h) <;> simp [h]
      · rintro (h | h | h) <;> simp [h]
theorem insD_len (v : DV) : ∀ l : List DV, (insD v l).length = l.length + 1
  | [] => rfl
  | y :: r => by
    rw [insD]; split
    · simp
    · rw [List.length_cons, insD_len v r]; rfl
theorem insD_pw {v : DV} : ∀ {l : List DV}, (l.Pairwise fun a b => a.id < b.id) → (∀ z ∈ l, z.id ≠ v.id) → (insD v l).Pairwise fun a b => a.id < b.id
  | [], _, _ => by simp [insD]
  | y :: r, h, k => by
    obtain ⟨h1, h2⟩ := List.pairwise_cons.1 h
    rw [insD]
    split
    · rename_i q
      refine List.pairwise_cons.2 ⟨fun z hz => ?_, h⟩
      rcases List.mem_cons.1 hz with rfl | hz
      · exact q
      · have := h1 z hz; omega
    · rename_i q
      refine List.pairwise_cons.2 ⟨fun z hz => ?_, insD_pw h2 (fun z hz => k z (by simp [hz]))⟩
      rcases mem_insD.1 hz with rfl | hz
      · have := k y (by simp); omega
      · exact h1 z hz
theorem getD_rep (n i : Nat) : (List.replicate n (0 : Nat)).getD i 0 = 0 := by
  rw [List.getD_eq_getElem?_getD, List.getElem?_replicate]; split <;> rfl
section
variable {D : DP} {i : Nat} {v : DV}
theorem DOk.ins (h : DOk D) {b : Int} {u : DV} (hu : 1 ≤ u.id ∧ u.id ≤ 16) (hs : 0 ≤ u.size ∧ u.size ≤ 64) (hl : u.pl.length = 64) (hb : ∀ c ∈ u.pl, c ≤ D.ch.length) (ho : ∀ i : Nat, u.size ≤ (i : Int) → u.pl.getD i 0 = 0) (hn : ∀ z ∈ D.vols, z.id ≠ u.id) :
    DOk { D with vols := insD u D.vols, births := b } := by
  have mem : ∀ (Q : DV → Prop), Q u → (∀ z ∈ D.vols, Q z) → ∀ z ∈ insD u D.vols, Q z := fun Q q1 q2 z hz => by
    rcases mem_insD.1 hz with rfl | hz
    · exact q1
    · exact q2 z hz
  exact ⟨h.k1, h.k8, insD_pw h.nd hn, mem _ hu h.ids, mem _ hs h.sizes, mem _ hl h.len, mem _ hb h.big, mem _ ho h.out, h.ck⟩
theorem DOk.set (h : DOk D) (hi : D.vols[i]? = some v) {u : DV} {ch : List (List (List UInt8))} (e : u.id = v.id) (hs : 0 ≤ u.size ∧ u.size ≤ 64) (hl : u.pl.length = 64) (hc : D.ch.length ≤ ch.length) (hb : ∀ c ∈ u.pl, c ≤ ch.length) (ho : ∀ i : Nat, u.size ≤ (i : Int) → u.pl.getD i 0 = 0)
    (hk : ∀ l ∈ ch, l.length = D.k ∧ ∀ s ∈ l, s.length = 16) : DOk { D with vols := D.vols.set i u, ch := ch } := by
  have mem : ∀ (Q : DV → Prop), Q u → (∀ z ∈ D.vols, Q z) → ∀ z ∈ D.vols.set i u, Q z := fun Q q1 q2 z hz => by
    rcases List.mem_or_eq_of_mem_set hz with hz | rfl
    · exact q2 z hz
    · exact q1
  refine ⟨h.k1, h.k8, ?_, mem _ ?_ h.ids, mem _ hs h.sizes, mem _ hl h.len, mem _ hb (fun z hz c hcz => Nat.le_trans (h.big z hz c hcz) hc), mem _ ho h.out, hk⟩
  · have hl := (List.getElem?_eq_some_iff.1 hi)
    obtain ⟨hil, hiv⟩ := hl
    refine List.pairwise_iff_getElem.2 fun a b ha hb hab => ?_
    have k := List.pairwise_iff_getElem.1 h.nd a b (by simpa using ha) (by simpa using hb) hab
    rw [List.getElem_set, List.getElem_set]
    by_cases qa : i = a
    · subst qa
      rw [if_pos rfl, if_neg (by omega), e, ← hiv]; exact k
    · rw [if_neg qa]
      by_cases qb : i = b
      · subst qb
        rw [if_pos rfl, e, ← hiv]; exact k
      · rw [if_neg qb]; exact k
  · rw [e]; exact h.ids v (List.mem_of_getElem? hi)
theorem DOk.erase (h : DOk D) : DOk { D with vols := D.vols.eraseIdx i } := by
  have sub := List.eraseIdx_sublist D.vols i
  exact ⟨h.k1, h.k8, h.nd.sublist sub, fun z hz => h.ids z (sub.mem hz), fun z hz => h.sizes z (sub.mem hz), fun z hz => h.len z (sub.mem hz), fun z hz => h.big z (sub.mem hz), fun z hz => h.out z (sub.mem hz), h.ck⟩
theorem erase_toVo : ∀ {l : List DV} {i : Nat} {v : DV}, (l.Pairwise fun a b => a.id < b.id) → l[i]? = some v → (l.eraseIdx i).map toVo = remV v.id (l.map toVo)
  | [], i, v, _, h => by simp at h
  | y :: r, 0, v, h, e => by
    obtain rfl : y = v := by simpa using e
    obtain ⟨h1, h2⟩ := List.pairwise_cons.1 h
    rw [List.eraseIdx_cons_zero, List.map_cons]
    unfold remV
    rw [List.filter_cons]
    have : (!decide ((toVo y).id = y.id)) = false := by simp [toVo]
    rw [this]
    symm
    show List.filter _ _ = _
    rw [List.filter_eq_self]
    intro u hu
    obtain ⟨z, hz, rfl⟩ := List.mem_map.1 hu
    have := h1 z hz
    have q : (toVo z).id ≠ y.id := by show z.id ≠ y.id; omega
    simp [q]
  | y :: r, i + 1, v, h, e => by
    obtain ⟨h1, h2⟩ := List.pairwise_cons.1 h
    have e : r[i]? = some v := by simpa using e
    rw [List.eraseIdx_cons_succ, List.map_cons, List.map_cons, erase_toVo h2 e]
    unfold remV
    rw [List.filter_cons]
    have hne := h1 v (List.mem_of_getElem? e)
    have : (!decide ((toVo y).id = v.id)) = true := by
      have q : (toVo y).id ≠ v.id := by show y.id ≠ v.id; omega
      simp [q]
    rw [this]; rfl
/-- How many places have a chunk. -/
def ownD (D : DP) (c : Nat) : Nat := (D.vols.map fun v => v.pl.count c).sum
theorem cnt_toVo {c : Nat} (hc : c ≠ 0) : ∀ l : List DV, cnt (l.map toVo) c = (l.map fun v => v.pl.count c).sum
  | [] => rfl
  | v :: r => by
    rw [List.map_cons, cnt_cons, cnt_toVo hc r, List.map_cons, List.sum_cons]
    show cntL c (plL v.pl) + _ = _
    rw [cntL_plL hc]
theorem cnt_zeroD : ∀ l : List DV, cnt (l.map toVo) 0 = 0
  | [] => rfl
  | v :: r => by
    rw [List.map_cons, cnt_cons, cnt_zeroD r]
    show cntL 0 (plF 0 v.pl) + 0 = 0
    rw [cntL_zero]
theorem DOk.big_cnt (h : DOk D) {c : Nat} (hc : D.ch.length < c) : cnt (toMS D).vols c = 0 := by
  rcases Nat.eq_zero_or_pos (cnt (toMS D).vols c) with q | q
  · exact q
  · exfalso
    obtain ⟨u, hu, x, hx, e⟩ := cnt_pos.1 q
    obtain ⟨v, hv, rfl⟩ := List.mem_map.1 hu
    obtain ⟨h1, h2, h3⟩ := mem_plL hx
    have := h.big v hv _ (getD_mem h2 h3)
    omega
/-- A place gets a chunk of its own. -/
def grown (D : DP) (i p : Nat) (v : DV) : DP := { D with vols := D.vols.set i { v with pl := v.pl.set p (D.ch.length + 1) }, ch := D.ch ++ [(List.range D.k).map fun j => secS (toMS D) (toVo v) (p * D.k + j)] }
/-- A chunk's sector is another one. -/
def putC (D : DP) (c x : Nat) (s : List UInt8) : DP := { D with ch := D.ch.set (c - 1) ((secD D.ch c).set x s) }
def needP (D : DP) (v : DV) (p : Nat) : Prop := v.pl.getD p 0 = 0 ∨ 1 < ownD D (v.pl.getD p 0)
instance (D : DP) (v : DV) (p : Nat) : Decidable (needP D v p) := inferInstanceAs (Decidable (_ ∨ _))
def setD (D : DP) (i x : Nat) (v : DV) (s : List UInt8) : DP :=
  if needP D v (x / D.k) then putC (grown D i (x / D.k) v) (D.ch.length + 1) (x % D.k) s else putC D (v.pl.getD (x / D.k) 0) (x % D.k) s
theorem sec_len (h : DOk D) (hv : v ∈ D.vols) (x : Nat) : (secS (toMS D) (toVo v) x).length = 16 := by
  unfold secS
  show (match getL ((x / D.k : Nat) : Int) (plL v.pl) with | some c => (secD D.ch c).getD (x % D.k) [] | none => zero16).length = 16
  rw [getL_plL]
  cases hg : getP v.pl ((x / D.k : Nat) : Int) with
  | none => rfl
  | some c =>
    obtain ⟨h1, h2, h3⟩ := getP_some hg
    dsimp only
    obtain ⟨e1, e2⟩ := h.ck _ (secD_at h2 (h.big v hv _ (getD_mem h2 h3)))
    have := h.k1
    have hx : x % D.k < (secD D.ch c).length := by rw [e1]; exact Nat.mod_lt _ (by omega)
    rw [List.getD_eq_getElem?_getD, List.getElem?_eq_getElem hx]
    exact e2 _ (List.getElem_mem hx)
theorem DOk.grown (h : DOk D) (hi : D.vols[i]? = some v) {p : Nat} (hp : (p : Int) < v.size) : DOk (grown D i p v) := by
  have hv := List.mem_of_getElem? hi
  unfold Go.Proofs.YtlcepoagpocadaaGreatDoor.grown
  refine h.set hi (u := { v with pl := v.pl.set p (D.ch.length + 1) }) rfl (h.sizes v hv) (by rw [List.length_set]; exact h.len v hv) (by simp) (fun c hc => ?_) (fun j hj => ?_) (fun l hl => ?_)
  · rcases List.mem_or_eq_of_mem_set hc with hc | rfl
    · have := h.big v hv c hc; simp; omega
    · simp
  · have hj : v.size ≤ (j : Int) := hj
    rw [List.getD_eq_getElem?_getD, List.getElem?_set_ne (by omega), ← List.getD_eq_getElem?_getD]
    exact h.out v hv j hj
  · rcases List.mem_append.1 hl with hl | hl
    · exact h.ck l hl
    · rw [List.mem_singleton.1 hl]
      refine ⟨by simp, fun s hs => ?_⟩
      obtain ⟨j, _, rfl⟩ := List.mem_map.1 hs
      exact sec_len h hv _
theorem own_grown (h : DOk D) (hi : D.vols[i]? = some v) {p : Nat} (hp : p < 64) (hn : needP D v p) : Own (toMS D) (toVo v) p (toMS (grown D i p v)) (D.ch.length + 1) := by
  have hv := List.mem_of_getElem? hi
  refine .inr ⟨fun d hd => ?_, h.big_cnt (Nat.lt_succ_self _), ?_⟩
  · have hd : getL (p : Int) (plL v.pl) = some d := hd
    rw [getL_plL] at hd
    obtain ⟨_, h2, h3⟩ := getP_some hd
    rw [Int.toNat_natCast] at h3
    rcases hn with q | q
    · rw [h3] at q; exact absurd q h2
    · rw [h3] at q
      show cnt (D.vols.map toVo) d ≠ 1
      rw [cnt_toVo h2]
      unfold ownD at q
      omega
  · unfold toMS grown
    dsimp only
    rw [map_set_toVo h hi (v' := { v with pl := v.pl.set p (D.ch.length + 1) }) rfl, secD_push]
    congr 2
    unfold toVo
    dsimp only
    rw [plL_put (by rw [h.len v hv]; exact hp) (by omega)]
theorem own_alone (h : DOk D) (hi : D.vols[i]? = some v) {p : Nat} (hn : ¬ needP D v p) : Own (toMS D) (toVo v) p (toMS D) (v.pl.getD p 0) := by
  have hv := List.mem_of_getElem? hi
  have h0 : v.pl.getD p 0 ≠ 0 := fun e => hn (.inl e)
  have h1 : ¬ 1 < ownD D (v.pl.getD p 0) := fun e => hn (.inr e)
  have hg : getL (p : Int) (toVo v).pl = some (v.pl.getD p 0) := by
    show getL (p : Int) (plL v.pl) = _
    rw [getL_plL, getP_nat, if_neg h0]
  refine .inl ⟨hg, ?_, rfl⟩
  have hpos : 0 < cnt (toMS D).vols (v.pl.getD p 0) := cnt_pos.2 ⟨toVo v, List.mem_map.2 ⟨v, hv, rfl⟩, _, getL_mem hg, rfl⟩
  have : cnt (toMS D).vols (v.pl.getD p 0) = ownD D (v.pl.getD p 0) := cnt_toVo h0 _
  omega
theorem toMS_putC {c x : Nat} {s : List UInt8} (hc : c ≠ 0) (hl : c ≤ D.ch.length) : toMS (putC D c x s) = setC (toMS D) c x s := by
  unfold toMS putC setC
  dsimp only
  rw [secD_set _ _ hc hl]
theorem DOk.putC (h : DOk D) {c x : Nat} {s : List UInt8} (hc : c ≠ 0) (hl : c ≤ D.ch.length) (hs : s.length = 16) : DOk (putC D c x s) := by
  refine ⟨h.k1, h.k8, h.nd, h.ids, h.sizes, h.len, fun v hv d hd => ?_, h.out, fun l hm => ?_⟩
  · show d ≤ (D.ch.set (c - 1) _).length
    rw [List.length_set]; exact h.big v hv d hd
  · rcases List.mem_or_eq_of_mem_set hm with hm | rfl
    · exact h.ck l hm
    · obtain ⟨e1, e2⟩ := h.ck _ (secD_at hc hl)
      refine ⟨by rw [List.length_set]; exact e1, fun t ht => ?_⟩
      rcases List.mem_or_eq_of_mem_set ht with ht | rfl
      · exact e2 t ht
      · exact hs
theorem set_rel (h : DOk D) (hi : D.vols[i]? = some v) {x : Nat} (hx : ((x / D.k : Nat) : Int) < v.size) {s : List UInt8} (hs : s.length = 16) : SetR (toMS D) v.id x s (toMS (setD D i x v s)) ∧ DOk (setD D i x v s) := by
  have hv := List.mem_of_getElem? hi
  have hsz := h.sizes v hv
  have h64 : x / D.k < 64 := by omega
  unfold setD
  by_cases hn : needP D v (x / D.k)
  · rw [if_pos hn]
    have hl : D.ch.length + 1 ≤ (grown D i (x / D.k) v).ch.length := by unfold grown; simp
    refine ⟨⟨toVo v, _, _, h.find hi, own_grown (p := x / D.k) h hi h64 hn, ?_⟩, (h.grown hi hx).putC (by omega) hl hs⟩
    rw [toMS_putC (by omega) hl]
    rfl
  · rw [if_neg hn]
    have h0 : v.pl.getD (x / D.k) 0 ≠ 0 := fun e => hn (.inl e)
    have hl := h.big v hv _ (getD_mem h0 rfl)
    refine ⟨⟨toVo v, _, _, h.find hi, own_alone h hi hn, ?_⟩, h.putC h0 hl hs⟩
    rw [toMS_putC h0 hl]
    rfl
end
end Go.Proofs.YtlcepoagpocadaaGreatDoor
/- What the document's orders do to its pool: discards, what is wanted, what is counted. -/
namespace Go.Proofs.YtlcepoagpocadaaGreatDoor
open Go Go.RowKit
section
variable {D : DP} {i : Nat} {v : DV}
theorem needS_toVo (hv : v ∈ D.vols) (p : Nat) : needS (toMS D) (toVo v) p = decide (needP D v p) := by
  unfold needS
  rw [show getL (p : Int) (toVo v).pl = getP v.pl p from getL_plL _ _, getP_nat]
  by_cases h0 : v.pl.getD p 0 = 0
  · rw [if_pos h0]
    symm
    exact decide_eq_true (.inl h0)
  · rw [if_neg h0]
    show decide (1 < cnt (D.vols.map toVo) (v.pl.getD p 0)) = _
    rw [cnt_toVo h0]
    exact decide_eq_decide.2 ⟨fun q => .inr q, fun q => q.resolve_left h0⟩
theorem setD_at (hi : D.vols[i]? = some v) (x : Nat) (s : List UInt8) : ∃ v', (setD D i x v s).vols[i]? = some v' ∧ v'.id = v.id ∧ v'.size = v.size ∧ (setD D i x v s).k = D.k ∧ (setD D i x v s).births = D.births ∧ (setD D i x v s).vols.length = D.vols.length ∧ (setD D i x v s).ch.length ≤ D.ch.length + 1 := by
  have hl := (List.getElem?_eq_some_iff.1 hi).1
  unfold setD
  split
  · refine ⟨{ v with pl := v.pl.set (x / D.k) (D.ch.length + 1) }, ?_, rfl, rfl, rfl, rfl, ?_, ?_⟩
    · unfold putC grown; dsimp only; rw [List.getElem?_set_self hl]
    · unfold putC grown; simp
    · unfold putC grown; simp
  · exact ⟨v, hi, rfl, rfl, rfl, rfl, rfl, by unfold putC; simp⟩
/-- A place has nothing. -/
def zeroP (D : DP) (i p : Nat) (v : DV) : DP := { D with vols := D.vols.set i { v with pl := v.pl.set p 0 } }
theorem set_zero_id {l : List Nat} {p : Nat} (h : l.getD p 0 = 0) : l.set p 0 = l := by
  apply List.ext_getElem?
  intro j
  by_cases q : p = j
  · subst q
    by_cases hp : p < l.length
    · rw [List.getElem?_set_self hp]
      rw [List.getD_eq_getElem?_getD, List.getElem?_eq_getElem hp] at h
      have h : l[p] = 0 := h
      rw [List.getElem?_eq_getElem hp, h]
    · rw [List.getElem?_eq_none (by simp; omega), List.getElem?_eq_none (by omega)]
  · rw [List.getElem?_set_ne q]
theorem zeroP_id (hi : D.vols[i]? = some v) {p : Nat} (h : v.pl.getD p 0 = 0) : zeroP D i p v = D := by
  unfold zeroP
  rw [set_zero_id h]
  have : D.vols.set i { v with } = D.vols := by
    apply List.ext_getElem?
    intro j
    by_cases q : i = j
    · subst q
      rw [List.getElem?_set_self (List.getElem?_eq_some_iff.1 hi).1, hi]
    · rw [List.getElem?_set_ne q]
  rw [this]
theorem DOk.zero (h : DOk D) (hi : D.vols[i]? = some v) (p : Nat) : DOk (zeroP D i p v) := by
  have hv := List.mem_of_getElem? hi
  unfold zeroP
  refine h.set hi (u := { v with pl := v.pl.set p 0 }) rfl (h.sizes v hv) (by rw [List.length_set]; exact h.len v hv) (Nat.le_refl _) (fun c hc => ?_) (fun j hj => ?_) h.ck
  · rcases List.mem_or_eq_of_mem_set hc with hc | rfl
    · exact h.big v hv c hc
    · exact Nat.zero_le _
  · have hj : v.size ≤ (j : Int) := hj
    by_cases q : p = j
    · subst q
      show (v.pl.set p 0).getD p 0 = 0
      by_cases hp : p < v.pl.length
      · rw [List.getD_eq_getElem?_getD, List.getElem?_set_self hp]; rfl
      · rw [List.getD_eq_getElem?_getD, List.getElem?_eq_none (by simp; omega)]; rfl
    · show (v.pl.set p 0).getD j 0 = 0
      rw [List.getD_eq_getElem?_getD, List.getElem?_set_ne q, ← List.getD_eq_getElem?_getD]
      exact h.out v hv j hj
theorem toMS_zero (h : DOk D) (hi : D.vols[i]? = some v) (p : Nat) : toMS (zeroP D i p v) = putS (toMS D) { toVo v with pl := delL (p : Int) (toVo v).pl } := by
  unfold toMS zeroP putS
  dsimp only
  rw [map_set_toVo h hi (v' := { v with pl := v.pl.set p 0 }) rfl]
  congr 2
  unfold toVo
  dsimp only
  rw [plL_del]
/-- One sector is discarded, where a place is not discarded as a whole. -/
def disD (D : DP) (i x : Nat) (v : DV) : DP := if v.pl.getD (x / D.k) 0 = 0 then D else setD D i x v zero16
theorem dis_part (h : DOk D) (hi : D.vols[i]? = some v) {a n x : Nat} (hw : wholeS D.k a n (x / D.k) = false) (hx : ((x / D.k : Nat) : Int) < v.size) : DisS (toMS D) v.id a n x (toMS (disD D i x v)) ∧ DOk (disD D i x v) := by
  obtain ⟨hR, hO⟩ := set_rel h hi hx (s := zero16) rfl
  have hg : getL ((x / (toMS D).k : Nat) : Int) (toVo v).pl = if v.pl.getD (x / D.k) 0 = 0 then none else some (v.pl.getD (x / D.k) 0) := by
    show getL ((x / D.k : Nat) : Int) (plL v.pl) = _
    rw [getL_plL, getP_nat]
  unfold disD
  by_cases h0 : v.pl.getD (x / D.k) 0 = 0
  · rw [if_pos h0] at hg ⊢
    refine ⟨⟨toVo v, h.find hi, ?_⟩, h⟩
    rw [hg]
  · rw [if_neg h0] at hg ⊢
    refine ⟨⟨toVo v, h.find hi, ?_⟩, hO⟩
    rw [hg]
    dsimp only
    rw [if_neg (by show ¬ wholeS D.k a n (x / D.k) = true; rw [hw]; decide)]
    exact hR
theorem disD_at (hi : D.vols[i]? = some v) (x : Nat) : ∃ v', (disD D i x v).vols[i]? = some v' ∧ v'.id = v.id ∧ v'.size = v.size ∧ (disD D i x v).k = D.k ∧ (disD D i x v).births = D.births ∧ (disD D i x v).vols.length = D.vols.length ∧ (disD D i x v).ch.length ≤ D.ch.length + 1 := by
  unfold disD
  split
  · exact ⟨v, hi, rfl, rfl, rfl, rfl, rfl, Nat.le_succ _⟩
  · exact setD_at hi x zero16
theorem DisR.cast {S S1 S2 : MS} {id : Int} {a n m m' : Nat} (h : DisR S id a n m S1) (e : m = m') (e2 : S1 = S2) : DisR S id a n m' S2 := by subst e; subst e2; exact h
/-- A place is discarded as a whole. -/
theorem dis_whole (h : DOk D) (hi : D.vols[i]? = some v) {S : MS} {a n p : Nat} (hw : wholeS D.k a n p = true) (hR : DisR S v.id a n (p * D.k - a) (toMS D)) :
    ∀ m, 1 ≤ m → m ≤ D.k → DisR S v.id a n (p * D.k - a + m) (toMS (zeroP D i p v)) := by
  have hk := h.k1
  have hap : a ≤ p * D.k := by
    unfold wholeS at hw
    simp at hw
    exact hw.1
  have hg : getL ((p : Nat) : Int) (toVo v).pl = if v.pl.getD p 0 = 0 then none else some (v.pl.getD p 0) := by
    show getL (p : Int) (plL v.pl) = _
    rw [getL_plL, getP_nat]
  have hz := h.zero hi p
  have hil := (List.getElem?_eq_some_iff.1 hi).1
  have hzi : (zeroP D i p v).vols[i]? = some { v with pl := v.pl.set p 0 } := by unfold zeroP; dsimp only; rw [List.getElem?_set_self hil]
  have hg2 : getL ((p : Nat) : Int) (toVo { v with pl := v.pl.set p 0 }).pl = none := by
    show getL (p : Int) (plL (v.pl.set p 0)) = _
    rw [← plL_del, getL_del, if_pos rfl]
  intro m
  induction m with
  | zero => intro q; omega
  | succ m ih =>
    intro _ hm
    have hdiv : (a + (p * D.k - a + m)) / D.k = p := by
      rw [show a + (p * D.k - a + m) = m + D.k * p by rw [Nat.mul_comm D.k p]; omega, Nat.add_mul_div_left _ _ (by omega), Nat.div_eq_of_lt (by omega), Nat.zero_add]
    by_cases h0 : m = 0
    · subst h0
      refine ⟨toMS D, hR, toVo v, h.find hi, ?_⟩
      show match getL (((a + (p * D.k - a)) / (toMS D).k : Nat) : Int) (toVo v).pl with
        | none => toMS (zeroP D i p v) = toMS D
        | some _ => if wholeS (toMS D).k a n ((a + (p * D.k - a)) / (toMS D).k) = true then toMS (zeroP D i p v) = putS (toMS D) { toVo v with pl := delL (((a + (p * D.k - a)) / (toMS D).k : Nat) : Int) (toVo v).pl } else SetR (toMS D) v.id (a + (p * D.k - a)) zero16 (toMS (zeroP D i p v))
      rw [show (a + (p * D.k - a)) / (toMS D).k = p from hdiv, hg]
      by_cases q : v.pl.getD p 0 = 0
      · rw [if_pos q]
        dsimp only
        rw [zeroP_id hi q]
      · rw [if_neg q]
        dsimp only
        rw [if_pos (by exact hw)]
        exact toMS_zero h hi p
    · have hS : DisS (toMS (zeroP D i p v)) v.id a n (a + (p * D.k - a + m)) (toMS (zeroP D i p v)) := ⟨toVo { v with pl := v.pl.set p 0 }, hz.find hzi, by
        rw [show (a + (p * D.k - a + m)) / (toMS (zeroP D i p v)).k = p from hdiv, hg2]⟩
      exact ⟨toMS (zeroP D i p v), ih (by omega) (by omega), hS⟩
/-- Creating, deleting, taking a snapshot, resizing, pinning. -/
def zeros64 : List Nat := List.replicate 64 0
theorem createD (h : DOk D) {id size : Int} (hid : 1 ≤ id ∧ id ≤ 16) (hs : 0 ≤ size ∧ size ≤ 64) (hn : ∀ z ∈ D.vols, z.id ≠ id) {b : Int} :
    DOk { D with vols := insD ⟨id, b, size, false, 0, zeros64⟩ D.vols, births := b } ∧ (0, toMS { D with vols := insD ⟨id, b, size, false, 0, zeros64⟩ D.vols, births := b }) = createS (toMS D) id size 0 0 := by
  refine ⟨h.ins (u := ⟨id, b, size, false, 0, zeros64⟩) hid hs (by unfold zeros64; simp) (fun c hc => by
    have := List.eq_of_mem_replicate hc
    omega) (fun j _ => getD_rep 64 j) hn, ?_⟩
  unfold createS
  rw [if_neg (by omega), find_noneD hn]
  unfold toMS
  dsimp only
  rw [map_ins]
  unfold toVo
  dsimp only
  rw [show plL zeros64 = [] from plL_zero 64]
theorem snapD (h : DOk D) (hi : D.vols[i]? = some v) {tt : Int} (ht : 1 ≤ tt ∧ tt ≤ 16) (hn : ∀ z ∈ D.vols, z.id ≠ tt) {b : Int} :
    DOk { D with vols := insD ⟨tt, b, v.size, false, v.id, v.pl⟩ D.vols, births := b } ∧ (0, toMS { D with vols := insD ⟨tt, b, v.size, false, v.id, v.pl⟩ D.vols, births := b }) = snapS (toMS D) v.id tt 0 0 := by
  have hv := List.mem_of_getElem? hi
  refine ⟨h.ins (u := ⟨tt, b, v.size, false, v.id, v.pl⟩) ht (h.sizes v hv) (h.len v hv) (h.big v hv) (h.out v hv) hn, ?_⟩
  unfold snapS
  rw [h.find hi]
  dsimp only
  rw [if_neg (by omega), find_noneD hn]
  unfold toMS
  dsimp only
  rw [map_ins]
  rfl
theorem deleteD (h : DOk D) (hi : D.vols[i]? = some v) : DOk { D with vols := D.vols.eraseIdx i } ∧ (0, toMS { D with vols := D.vols.eraseIdx i }) = deleteS (toMS D) v.id := by
  refine ⟨h.erase, ?_⟩
  unfold deleteS
  rw [h.find hi]
  unfold toMS
  dsimp only
  rw [erase_toVo h.nd hi]
theorem resizeD (h : DOk D) (hi : D.vols[i]? = some v) {n : Nat} (hs : n ≤ 64) :
    DOk { D with vols := D.vols.set i { v with size := (n : Int), pl := cutP n v.pl } } ∧ (0, toMS { D with vols := D.vols.set i { v with size := (n : Int), pl := cutP n v.pl } }) = resizeS (toMS D) v.id (n : Int) := by
  have hv := List.mem_of_getElem? hi
  refine ⟨h.set hi (u := { v with size := (n : Int), pl := cutP n v.pl }) rfl (by dsimp only; omega) (by dsimp only; rw [cutP_len]; exact h.len v hv) (Nat.le_refl _) (fun c hc => ?_) (fun j hj => ?_) h.ck, ?_⟩
  · have hc : c ∈ cutP n v.pl := hc
    unfold cutP at hc
    rcases List.mem_append.1 hc with hc | hc
    · exact h.big v hv c (List.mem_of_mem_take hc)
    · have := List.eq_of_mem_replicate hc; omega
  · have hj : (n : Int) ≤ (j : Int) := hj
    show (cutP n v.pl).getD j 0 = 0
    rw [cutP_get, if_neg (by omega)]
  · unfold resizeS
    rw [h.find hi]
    dsimp only
    rw [if_neg (by omega)]
    unfold toMS putS
    dsimp only
    rw [map_set_toVo h hi (v' := { v with size := (n : Int), pl := cutP n v.pl }) rfl]
    unfold toVo
    dsimp only
    rw [plL_trim]
theorem pinD (h : DOk D) (hi : D.vols[i]? = some v) (is : Bool) :
    DOk { D with vols := D.vols.set i { v with pin := is } } ∧ (0, toMS { D with vols := D.vols.set i { v with pin := is } }) = pinS (toMS D) v.id is := by
  have hv := List.mem_of_getElem? hi
  refine ⟨h.set hi (u := { v with pin := is }) rfl (h.sizes v hv) (h.len v hv) (Nat.le_refl _) (h.big v hv) (h.out v hv) h.ck, ?_⟩
  unfold pinS
  rw [h.find hi]
  unfold toMS putS
  dsimp only
  rw [map_set_toVo h hi (v' := { v with pin := is }) rfl]
  rfl
end
/-! ### counting -/
theorem dist_nodupD : ∀ l : List Nat, (distinct l).Nodup
  | [] => List.nodup_nil
  | a :: r => by
    rw [distinct]
    split
    · exact dist_nodupD r
    · rename_i h; exact List.nodup_cons.2 ⟨h, dist_nodupD r⟩
theorem dist_lenD {l m : List Nat} (h : ∀ a, a ∈ l ↔ a ∈ m) : (distinct l).length = (distinct m).length :=
  ((List.perm_ext_iff_of_nodup (dist_nodupD l) (dist_nodupD m)).2 fun a => by rw [mem_distinct, mem_distinct]; exact h a).length_eq
theorem dist_snocD (l : List Nat) (c : Nat) : (distinct (l ++ [c])).length = (distinct l).length + if c ∈ l then 0 else 1 := by
  have e : (distinct (l ++ [c])).length = (distinct (c :: l)).length := dist_lenD fun a => by simp [or_comm]
  rw [e, distinct]
  by_cases h : c ∈ l
  · rw [if_pos (mem_distinct.2 h), if_pos h]; rfl
  · rw [if_neg (fun q => h (mem_distinct.1 q)), if_neg h]; rfl
/-- All chunks at places, one behind another. -/
def liveP (l : List Nat) : List Nat := l.filter fun c => decide (c ≠ 0)
theorem plF_vals : ∀ (l : List Nat) (i : Nat), (plF i l).map (·.2) = liveP l
  | [], _ => rfl
  | c :: r, i => by
    unfold plF liveP
    rw [List.filter_cons]
    by_cases h : c = 0
    · rw [if_pos h, plF_vals r]; simp [h, liveP]
    · rw [if_neg h, List.map_cons, plF_vals r]; simp [h, liveP]
def liveD (l : List DV) : List Nat := l.flatMap fun v => liveP v.pl
theorem live_toVo : ∀ l : List DV, liveL (l.map toVo) = liveD l
  | [] => rfl
  | v :: r => by
    rw [List.map_cons, liveL, live_toVo r]
    unfold liveD
    rw [List.flatMap_cons]
    congr 1
    exact plF_vals v.pl 0
theorem countS_toMS (D : DP) : countS (toMS D) = (distinct (liveD D.vols)).length := by
  unfold countS toMS
  dsimp only
  rw [live_toVo]
end Go.Proofs.YtlcepoagpocadaaGreatDoor
set_option maxRecDepth 100000
/- The document's pool in memory. -/
namespace Go.Proofs.YtlcepoagpocadaaGreatDoor
open Go Go.RowKit
def dvL (v : DV) : List Value := [.int .i64 v.id, .int .i64 v.birth, .int .i64 v.size, .bool v.pin, .int .i64 v.fr] ++ v.pl.map fun (c : Nat) => .int .i64 (c : Int)
theorem dvL_len {v : DV} (h : v.pl.length = 64) : (dvL v).length = 69 := by unfold dvL; simp [h]
theorem dvF_len {l : List DV} (h : ∀ v ∈ l, v.pl.length = 64) : (l.flatMap dvL).length = l.length * 69 := by
  induction l with
  | nil => rfl
  | cons u l ih => rw [List.flatMap_cons, List.length_append, dvL_len (h u (by simp)), ih (fun v hv => h v (by simp [hv])), List.length_cons]; omega
theorem dv_get {l : List DV} (h : ∀ v ∈ l, v.pl.length = 64) {j : Nat} {v : DV} (hj : l[j]? = some v) {i : Nat} (hi : i < 69) : (l.flatMap dvL)[j * 69 + i]? = (dvL v)[i]? := by
  induction l generalizing j with
  | nil => simp at hj
  | cons u l ih =>
    rw [List.flatMap_cons]
    have hu := dvL_len (h u (by simp))
    cases j with
    | zero =>
      have : u = v := by simpa using hj
      subst this
      rw [List.getElem?_append_left (by omega)]; simp
    | succ j =>
      rw [List.getElem?_append_right (by omega), hu, show (j + 1) * 69 + i - 69 = j * 69 + i by omega]
      exact ih (fun v hv => h v (by simp [hv])) (by simpa using hj)
def dvF (l : List DV) (j : Nat) : Value := (l.flatMap dvL).getD j undef
theorem dvF_at {l : List DV} (h : ∀ v ∈ l, v.pl.length = 64) {j : Nat} {v : DV} (hj : l[j]? = some v) {i : Nat} (hi : i < 69) : dvF l (j * 69 + i) = (dvL v).getD i undef := by
  unfold dvF
  rw [List.getD_eq_getElem?_getD, List.getD_eq_getElem?_getD, dv_get h hj hi]
theorem dvL_pl {v : DV} {p : Nat} (h : p < v.pl.length) : (dvL v).getD (5 + p) undef = .int .i64 ((v.pl.getD p 0 : Nat) : Int) := by
  unfold dvL
  rw [List.getD_eq_getElem?_getD, List.getElem?_append_right (by simp), List.getElem?_map, List.getD_eq_getElem?_getD]
  simp only [List.length_cons, List.length_nil, Nat.add_sub_cancel_left]
  rw [List.getElem?_eq_getElem h]; rfl
structure Dx (F : Nat → Prop) (w : World) (p : Nat) (D : DP) (ga : Option Addr) (gc : Nat) (cv : Value) (gs : List (Nat × Nat)) (tag : Nat → Nat) : Prop where
  blk : Blk w p #[.int .i64 (D.k : Int), .slice ga D.vols.length gc, cv, .int .i64 D.births]
  vols : 0 < D.vols.length → ∃ g, ga = some ⟨g, 0, none⟩ ∧ RowV w g (D.vols.length * 69) (dvF D.vols) ∧ tag g = 2 ∧ F g
  chs : w.ownsRow 0 32 1 cv D.ch.length (gs.map fun x => .slice (some ⟨x.1, 0, none⟩) D.k x.2)
  tc : ∀ q, cv.ownBlock = some q → tag q = 3 ∧ F q
  secs : ∀ (i : Nat) (x : Nat × Nat) (l : List (List UInt8)), gs[i]? = some x → D.ch[i]? = some l → RowV w x.1 D.k (txF l) ∧ tag x.1 = 4 + i ∧ F x.1
  tp : tag p = 1 ∧ F p
  fl : ∀ i, F i → i < w.heap.size
  cp : D.vols.length ≤ gc
/-- The document's pool lies at p; its blocks are among F. -/
def Dq (F : Nat → Prop) (w : World) (p : Nat) (D : DP) : Prop := DOk D ∧ ∃ ga gc cv gs tag, Dx F w p D ga gc cv gs tag
section
variable {F T : Nat → Prop} {w w' : World} {p : Nat} {D : DP} {ga : Option Addr} {gc : Nat} {cv : Value} {gs : List (Nat × Nat)} {tag : Nat → Nat}
theorem Dx.mod (h : Dx F w p D ga gc cv gs tag) (M : Mod T w w') (hT : ∀ i, F i → ¬ T i) : Dx F w' p D ga gc cv gs tag :=
  ⟨h.blk.mod M (hT _ h.tp.2), fun q => by
    obtain ⟨g, h1, h2, h3, h4⟩ := h.vols q
    exact ⟨g, h1, h2.mod M (hT _ h4), h3, h4⟩, own_mod2 h.chs M (fun b hb => hT _ (h.tc b hb).2), h.tc, fun i x l h1 h2 => by
    obtain ⟨a, b, c⟩ := h.secs i x l h1 h2
    exact ⟨a.mod M (hT _ c), b, c⟩, h.tp, fun i hi => Nat.lt_of_lt_of_le (h.fl i hi) M.size, h.cp⟩
theorem Dx.same (h : Dx F w p D ga gc cv gs tag) (M : Same w w') : Dx F w' p D ga gc cv gs tag := h.mod M (fun _ _ q => q)
theorem Dq.mod (h : Dq F w p D) (M : Mod T w w') (hT : ∀ i, F i → ¬ T i) : Dq F w' p D := by
  obtain ⟨h0, ga, gc, cv, gs, tag, h⟩ := h
  exact ⟨h0, ga, gc, cv, gs, tag, h.mod M hT⟩
theorem Dq.same (h : Dq F w p D) (M : Same w w') : Dq F w' p D := h.mod M (fun _ _ q => q)
theorem Dx.glen (h : Dx F w p D ga gc cv gs tag) : gs.length = D.ch.length := by
  have := h.chs.1
  simpa using this
/-- A volume's cell. -/
theorem Dx.cell (h : Dx F w p D ga gc cv gs tag) (hO : ∀ v ∈ D.vols, v.pl.length = 64) {i : Nat} {v : DV} (hi : D.vols[i]? = some v) :
    ∃ g, ga = some ⟨g, 0, none⟩ ∧ F g ∧ tag g = 2 ∧ RowV w g (D.vols.length * 69) (dvF D.vols) ∧ i < D.vols.length ∧ (∀ j, j < 69 → w.cell? ⟨g, i * 69 + j, none⟩ = some ((dvL v).getD j undef)) ∧ (∀ j, w.frozen? ⟨g, j, none⟩ = false) := by
  have hil := (List.getElem?_eq_some_iff.1 hi).1
  obtain ⟨g, h1, h2, h3, h4⟩ := h.vols (by omega)
  refine ⟨g, h1, h4, h3, h2, hil, fun j hj => ?_, h2.free⟩
  rw [h2.cell (i * 69 + j) (by omega), dvF_at hO hi hj]
/-- A chunk's row and its cells. -/
theorem Dx.chunk (h : Dx F w p D ga gc cv gs tag) (hO : DOk D) {c : Nat} (hc : c ≠ 0) (hl : c ≤ D.ch.length) :
    ∃ q cap g gcap, cv = .slice (some ⟨q, 0, none⟩) D.ch.length cap ∧ tag q = 3 ∧ F q ∧ q < w.heap.size ∧ w.cell? ⟨q, c - 1, none⟩ = some (.slice (some ⟨g, 0, none⟩) D.k gcap) ∧ (∀ j, w.frozen? ⟨q, j, none⟩ = false) ∧ RowV w g D.k (txF (secD D.ch c)) ∧ tag g = 4 + (c - 1) ∧ F g ∧ gs[c - 1]? = some (g, gcap) := by
  have hgl := h.glen
  obtain ⟨q, cap, e, _, _, hr⟩ := RowV.of_owns h.chs (by omega)
  subst e
  obtain ⟨t1, t2⟩ := h.tc q rfl
  have hx : gs[c - 1]? = some (gs[c - 1]'(by omega)) := List.getElem?_eq_getElem (by omega)
  have hl2 : D.ch[c - 1]? = some (D.ch[c - 1]'(by omega)) := List.getElem?_eq_getElem (by omega)
  obtain ⟨a, b, d⟩ := h.secs (c - 1) _ _ hx hl2
  refine ⟨q, cap, _, _, rfl, t1, t2, hr.lt, ?_, hr.free, ?_, b, d, hx⟩
  · rw [hr.cell (c - 1) (by omega), List.getD_eq_getElem?_getD, List.getElem?_map, hx]; rfl
  · have e : secD D.ch c = D.ch[c - 1]'(by omega) := by
      unfold secD
      rw [if_neg hc, List.getD_eq_getElem?_getD, hl2]; rfl
    rw [e]; exact a
theorem upd_fun {α : Type} (f g : Nat → α) (i : Nat) (a : α) (h : ∀ j, j ≠ i → f j = g j) (h2 : f i = a) : ∀ j, f j = upd g i a j := fun j => by
  unfold upd
  by_cases q : j = i
  · rw [if_pos q, q]; exact h2
  · rw [if_neg q]; exact h j q
/-- A volume's cell is another one. -/
theorem dvF_set {l : List DV} (h : ∀ v ∈ l, v.pl.length = 64) {i j : Nat} {v v' : DV} (hi : l[i]? = some v) (hl : v'.pl.length = 64) (hj : j < 69) (he : ∀ x, x ≠ j → x < 69 → (dvL v').getD x undef = (dvL v).getD x undef) :
    ∀ x, x < l.length * 69 → dvF (l.set i v') x = upd (dvF l) (i * 69 + j) ((dvL v').getD j undef) x := by
  have hil := (List.getElem?_eq_some_iff.1 hi).1
  have h' : ∀ u ∈ l.set i v', u.pl.length = 64 := fun u hu => by
    rcases List.mem_or_eq_of_mem_set hu with hu | rfl
    · exact h u hu
    · exact hl
  intro x hx
  obtain ⟨a, b, hb, rfl⟩ : ∃ a b, b < 69 ∧ x = a * 69 + b := ⟨x / 69, x % 69, Nat.mod_lt _ (by omega), by omega⟩
  have ha : a < l.length := by omega
  have hla : l[a]? = some l[a] := List.getElem?_eq_getElem ha
  unfold upd
  by_cases q : a = i
  · subst q
    have e : (l.set a v')[a]? = some v' := List.getElem?_set_self hil
    rw [dvF_at h' e hb]
    by_cases r : b = j
    · subst r; rw [if_pos rfl]
    · rw [if_neg (by omega), he b r hb, dvF_at h hi hb]
  · have e : (l.set i v')[a]? = some l[a] := by rw [List.getElem?_set_ne (fun z => q z.symm)]; exact hla
    rw [dvF_at h' e hb, dvF_at h hla hb, if_neg (by omega)]
theorem Dx.put (h : Dx F w p D ga gc cv gs tag) (hO : ∀ v ∈ D.vols, v.pl.length = 64) {i j g : Nat} {v v' : DV} (hi : D.vols[i]? = some v) (hg : ga = some ⟨g, 0, none⟩) (hl : v'.pl.length = 64) (hj : j < 69) (he : ∀ x, x ≠ j → x < 69 → (dvL v').getD x undef = (dvL v).getD x undef)
    {y : Value} (hy : (dvL v').getD j undef = y) : Dx F (w.setCell ⟨g, i * 69 + j, none⟩ y) p { D with vols := D.vols.set i v' } ga gc cv gs tag ∧ Mod F w (w.setCell ⟨g, i * 69 + j, none⟩ y) := by
  subst hy
  obtain ⟨g', e1, hF, ht, hR, hil, _, _⟩ := h.cell hO hi
  obtain rfl : g' = g := by rw [hg] at e1; injection e1 with e1; injection e1 with e1; exact e1.symm
  have M : Mod (fun b => b = g') w (w.setCell ⟨g', i * 69 + j, none⟩ ((dvL v').getD j undef)) := (Mod.refl (fun b => b = g') w).setCell (p := ⟨g', i * 69 + j, none⟩) (fun _ => rfl) _
  have hp : ∀ t, tag t ≠ 2 → ¬ t = g' := fun t q e => q (by rw [e]; exact ht)
  refine ⟨⟨?_, fun _ => ⟨g', e1, ?_, ht, hF⟩, own_mod2 h.chs M (fun b hb => hp b (by rw [(h.tc b hb).1]; decide)), h.tc, fun a x l h1 h2 => ?_, h.tp, fun b hb => Nat.lt_of_lt_of_le (h.fl b hb) M.size, by show (D.vols.set i v').length ≤ gc; rw [List.length_set]; exact h.cp⟩, M.mono (fun b _ q => by rw [q]; exact hF)⟩
  · have := h.blk.mod M (hp p (by rw [h.tp.1]; decide))
    rw [show (D.vols.set i v').length = D.vols.length by simp]
    exact this
  · rw [show (D.vols.set i v').length = D.vols.length by simp]
    exact (hR.set (i * 69 + j) (by omega) ((dvL v').getD j undef)).congr (fun x hx => (dvF_set hO hi hl hj he x hx).symm)
  · obtain ⟨a1, a2, a3⟩ := h.secs a x l h1 h2
    exact ⟨a1.mod M (hp _ (by rw [a2]; omega)), a2, a3⟩
/-- The births are others. -/
theorem Dx.birth (h : Dx F w p D ga gc cv gs tag) (b : Int) : Dx F (w.setCell ⟨p, 3, none⟩ (.int .i64 b)) p { D with births := b } ga gc cv gs tag ∧ Mod F w (w.setCell ⟨p, 3, none⟩ (.int .i64 b)) := by
  have M : Mod (fun i => i = p) w (w.setCell ⟨p, 3, none⟩ (.int .i64 b)) := (Mod.refl (fun i => i = p) w).setCell (p := ⟨p, 3, none⟩) (fun _ => rfl) _
  have hp : ∀ t, tag t ≠ 1 → ¬ t = p := fun t q e => q (by rw [e]; exact h.tp.1)
  refine ⟨⟨?_, fun q => ?_, own_mod2 h.chs M (fun b hb => hp b (by rw [(h.tc b hb).1]; decide)), h.tc, fun a x l h1 h2 => ?_, h.tp, fun b hb => Nat.lt_of_lt_of_le (h.fl b hb) M.size, h.cp⟩, M.mono (fun i _ q => by rw [q]; exact h.tp.2)⟩
  · have := h.blk.set 3 (.int .i64 b)
    simp at this
    exact this
  · obtain ⟨g, h1, h2, h3, h4⟩ := h.vols q
    exact ⟨g, h1, h2.mod M (hp g (by rw [h3]; decide)), h3, h4⟩
  · obtain ⟨a1, a2, a3⟩ := h.secs a x l h1 h2
    exact ⟨a1.mod M (hp _ (by rw [a2]; omega)), a2, a3⟩
/-- The volumes are others: a new row. -/
theorem Dx.vols_new (h : Dx F w p D ga gc cv gs tag) {F' : Nat → Prop} (hF : ∀ i, F i → F' i) (hF2 : ∀ i, F' i → i < w.heap.size) {ga' : Option Addr} {gc' : Nat} {l : List DV} (hcp : l.length ≤ gc')
    (hg : 0 < l.length → ∃ g, ga' = some ⟨g, 0, none⟩ ∧ RowV w g (l.length * 69) (dvF l) ∧ ¬ F g ∧ F' g) :
    ∃ tag', Dx F' (w.setCell ⟨p, 1, none⟩ (.slice ga' l.length gc')) p { D with vols := l } ga' gc' cv gs tag' ∧ Mod F w (w.setCell ⟨p, 1, none⟩ (.slice ga' l.length gc')) := by
  have M : Mod (fun i => i = p) w (w.setCell ⟨p, 1, none⟩ (.slice ga' l.length gc')) := (Mod.refl (fun i => i = p) w).setCell (p := ⟨p, 1, none⟩) (fun _ => rfl) _
  have hp : ∀ t, tag t ≠ 1 → ¬ t = p := fun t q e => q (by rw [e]; exact h.tp.1)
  have hB := h.blk.set 1 (.slice ga' l.length gc')
  simp at hB
  by_cases q : 0 < l.length
  · obtain ⟨g, h1, h2, h3, h4⟩ := hg q
    have ne : ∀ i, F i → upd tag g 2 i = tag i := fun i hi => upd_ne _ _ (fun e => h3 (e ▸ hi))
    refine ⟨upd tag g 2, ⟨hB, fun _ => ⟨g, h1, h2.mod M (fun e => h3 (by rw [e]; exact h.tp.2)), upd_same _ _ _, h4⟩, own_mod2 h.chs M (fun b hb => hp b (by rw [(h.tc b hb).1]; decide)), fun b hb => ?_, fun a x l h1 h2 => ?_, ?_, fun b hb => Nat.lt_of_lt_of_le (hF2 b hb) M.size, hcp⟩, M.mono (fun i _ q => by rw [q]; exact h.tp.2)⟩
    · rw [ne b (h.tc b hb).2]; exact ⟨(h.tc b hb).1, hF _ (h.tc b hb).2⟩
    · obtain ⟨a1, a2, a3⟩ := h.secs a x l h1 h2
      rw [ne _ a3]
      exact ⟨a1.mod M (hp _ (by rw [a2]; omega)), a2, hF _ a3⟩
    · rw [ne p h.tp.2]; exact ⟨h.tp.1, hF _ h.tp.2⟩
  · refine ⟨tag, ⟨hB, fun r => absurd r q, own_mod2 h.chs M (fun b hb => hp b (by rw [(h.tc b hb).1]; decide)), fun b hb => ⟨(h.tc b hb).1, hF _ (h.tc b hb).2⟩, fun a x l h1 h2 => ?_, ⟨h.tp.1, hF _ h.tp.2⟩, fun b hb => Nat.lt_of_lt_of_le (hF2 b hb) M.size, hcp⟩, M.mono (fun i _ q => by rw [q]; exact h.tp.2)⟩
    obtain ⟨a1, a2, a3⟩ := h.secs a x l h1 h2
    exact ⟨a1.mod M (hp _ (by rw [a2]; omega)), a2, hF _ a3⟩
/-- A chunk's sector is another one. -/
theorem Dx.sec (h : Dx F w p D ga gc cv gs tag) (hO : DOk D) {c x g : Nat} (hc : c ≠ 0) (hl : c ≤ D.ch.length) (hx : x < D.k) (hR : RowV w g D.k (txF (secD D.ch c))) (ht : tag g = 4 + (c - 1)) (hF : F g) {gcap : Nat} (hgs : gs[c - 1]? = some (g, gcap)) (s : List UInt8) :
    Dx F (w.setCell ⟨g, x, none⟩ (strV s)) p (putC D c x s) ga gc cv gs tag ∧ Mod F w (w.setCell ⟨g, x, none⟩ (strV s)) := by
  have M : Mod (fun i => i = g) w (w.setCell ⟨g, x, none⟩ (strV s)) := (Mod.refl (fun i => i = g) w).setCell (p := ⟨g, x, none⟩) (fun _ => rfl) _
  have hp : ∀ t, tag t ≠ 4 + (c - 1) → ¬ t = g := fun t q e => q (by rw [e]; exact ht)
  refine ⟨⟨h.blk.mod M (hp p (by rw [h.tp.1]; omega)), fun q => ?_, ?_, h.tc, fun a y l h1 h2 => ?_, h.tp, fun b hb => Nat.lt_of_lt_of_le (h.fl b hb) M.size, h.cp⟩, M.mono (fun i _ q => by rw [q]; exact hF)⟩
  · obtain ⟨g2, h1, h2, h3, h4⟩ := h.vols q
    exact ⟨g2, h1, h2.mod M (hp g2 (by rw [h3]; omega)), h3, h4⟩
  · show World.ownsRow _ 0 32 1 cv (D.ch.set (c - 1) _).length _
    rw [List.length_set]
    exact own_mod2 h.chs M (fun b hb => hp b (by rw [(h.tc b hb).1]; omega))
  · have h2 : (D.ch.set (c - 1) ((secD D.ch c).set x s))[a]? = some l := h2
    by_cases q : a = c - 1
    · subst q
      rw [List.getElem?_set_self (by omega)] at h2
      injection h2 with h2
      subst h2
      have hl2 : D.ch[c - 1]? = some (secD D.ch c) := by
        unfold secD
        rw [if_neg hc, List.getD_eq_getElem?_getD, List.getElem?_eq_getElem (by omega)]; rfl
      obtain rfl : y = (g, gcap) := by rw [hgs] at h1; injection h1 with h1; exact h1.symm
      refine ⟨(hR.set x hx (strV s)).congr (fun i hi => ?_), ht, hF⟩
      have hlen := (hO.ck _ (secD_at hc hl)).1
      unfold upd txF
      by_cases z : i = x
      · subst z
        rw [if_pos rfl, List.getD_eq_getElem?_getD, List.getElem?_set_self (by omega)]; rfl
      · rw [if_neg z, List.getD_eq_getElem?_getD, List.getD_eq_getElem?_getD, List.getElem?_set_ne (by omega)]
    · rw [List.getElem?_set_ne (fun e => q e.symm)] at h2
      obtain ⟨a1, a2, a3⟩ := h.secs a y l h1 h2
      exact ⟨a1.mod M (hp _ (by rw [a2]; omega)), a2, a3⟩
end
end Go.Proofs.YtlcepoagpocadaaGreatDoor
set_option maxRecDepth 100000
/- The document's pool: which volume has a number, how many places have a chunk, what range can be. -/
namespace Go.Proofs.YtlcepoagpocadaaGreatDoor
open Go Go.RowKit
def FindR (D : DP) (id r : Int) : Prop := (∃ (i : Nat) (v : DV), r = (i : Int) ∧ D.vols[i]? = some v ∧ v.id = id) ∨ (r = -1 ∧ ∀ v ∈ D.vols, v.id ≠ id)
section
variable {F : Nat → Prop} {w : World} {p : Nat} {D : DP}
theorem dfind_any (h : Dq F w p D) (hB : D.vols.length ≤ 100000) (id : Int) : Calls Tryz.prog 66 #[bp p, .int .i64 id] w fun e w' => ∃ r, e = .returned (.int .i64 r) ∧ FindR D id r ∧ Same w w' := by
  refine opq fun R HR => ?_
  obtain ⟨hO, ga, gc, cv, gs, tag, hx⟩ := h
  have HX := Lib.hid hx
  have HO := Lib.hid hO
  have x1 := hx.blk.at_ (i := 1) _ rfl
  have hpl := hx.blk.lt
  obtain ⟨n, hn⟩ : ∃ n, D.vols.length = n := ⟨_, rfl⟩
  rw [hn] at x1 hB
  have HN := Lib.hid hn
  clear hx hO hn
  unfold bp
  go_enter Tryz.func66, Tryz.ntmps66
  go_wp2_with fail
  go_loopw [5] (fun i wr => ∃ j : Nat, j ≤ n ∧ i = .int .i64 j ∧ (∀ (u : Nat) (v : DV), u < j → D.vols[u]? = some v → v.id ≠ id) ∧ wr = w) (fun i _ => n - (intOf i).toNat)
  case atStart => exact ⟨0, Nat.zero_le _, rfl, fun u v h => by omega, rfl⟩
  case round =>
    obtain ⟨j, hj, rfl, hno, rfl⟩ := hrel
    have HNO := Lib.hid hno
    clear hno
    by_cases hlt : j < n
    · obtain ⟨v, hv⟩ : ∃ v, D.vols[j]? = some v := ⟨_, List.getElem?_eq_getElem (by rw [HN.out]; exact hlt)⟩
      obtain ⟨g, rfl, -, -, hR, -, hc, hf⟩ := HX.out.cell HO.out.len hv
      have c0 := hc 0 (by decide)
      rw [Nat.add_zero, show (dvL v).getD 0 undef = .int .i64 v.id from rfl] at c0
      have hgl := hR.lt
      have HV := Lib.hid hv
      clear hv hR hc hf
      by_cases q : v.id = id
      · have qd : (v.id == id) = true := by simpa using q
        have Q := Lib.hid q
        clear q
        go_wp2_with fail
        exact HR.out _ _ ⟨_, rfl, .inl ⟨j, v, rfl, HV.out, Q.out⟩, Mod.refl _ _⟩
      · have qd : (v.id == id) = false := by simpa using q
        have Q := Lib.hid q
        clear q
        go_wp2_with fail
        go_roundw
        case rel => exact ⟨j + 1, by omega, by go_num, fun u x hu hx => by
          by_cases r : u = j
          · subst r
            rw [HV.out] at hx
            injection hx with hx
            subst hx
            exact Q.out
          · exact HNO.out u x (by omega) hx, by first | exact rfl | trivial⟩
        case measure => simp [intOf]; omega
    · obtain rfl : j = n := by omega
      go_wp2_with fail
      exact HR.out _ _ ⟨_, rfl, .inr ⟨rfl, fun v hv => by
        obtain ⟨u, hu, e⟩ := List.mem_iff_getElem.1 hv
        exact HNO.out u v (by rw [← HN.out]; exact hu) (by rw [List.getElem?_eq_getElem hu, e])⟩, Mod.refl _ _⟩
/-- How many places of the first volumes have a chunk. -/
def ownTD (l : List DV) (c j : Nat) : Nat := ((l.take j).map fun v => v.pl.count c).sum
theorem ownTD_succ {l : List DV} {c j : Nat} {v : DV} (h : l[j]? = some v) : ownTD l c (j + 1) = ownTD l c j + v.pl.count c := by
  obtain ⟨hj, rfl⟩ := List.getElem?_eq_some_iff.1 h
  unfold ownTD
  rw [List.take_succ_eq_append_getElem hj, List.map_append, List.sum_append]; simp
theorem ownTD_le {l : List DV} (hl : ∀ v ∈ l, v.pl.length = 64) (c : Nat) : ∀ j, ownTD l c j ≤ 64 * j := by
  intro j
  induction j with
  | zero => simp [ownTD]
  | succ j ih =>
    by_cases hj : j < l.length
    · rw [ownTD_succ (List.getElem?_eq_getElem hj)]
      have h1 := hl _ (List.getElem_mem hj)
      have h2 := List.count_le_length (a := c) (l := l[j].pl)
      omega
    · have : ownTD l c (j + 1) = ownTD l c j := by unfold ownTD; rw [List.take_of_length_le (by omega), List.take_of_length_le (by omega)]
      omega
theorem ownTD_all {l : List DV} {j : Nat} (h : l.length = j) (c : Nat) : ownTD l c j = (l.map fun v => v.pl.count c).sum := by
  unfold ownTD; rw [← h, List.take_length]
theorem count_take {l : List Nat} {k : Nat} (h : k < l.length) (c : Nat) : (l.take (k + 1)).count c = (l.take k).count c + if l.getD k 0 = c then 1 else 0 := by
  rw [List.take_succ_eq_append_getElem h, List.count_append, List.getD_eq_getElem?_getD, List.getElem?_eq_getElem h]
  simp [List.count_singleton]
set_option maxHeartbeats 4000000 in
theorem downs_any (h : Dq F w p D) (hB : D.vols.length ≤ 10000) (c : Nat) : Calls Tryz.prog 84 #[bp p, .int .i64 (c : Int)] w fun e w' => e = .returned (.int .i64 (ownD D c : Int)) ∧ Same w w' := by
  refine opq fun R HR => ?_
  obtain ⟨hO, ga, gc, cv, gs, tag, hx⟩ := h
  have HX := Lib.hid hx
  have HO := Lib.hid hO
  have x1 := hx.blk.at_ (i := 1) _ rfl
  have hpl := hx.blk.lt
  obtain ⟨n, hn⟩ : ∃ n, D.vols.length = n := ⟨_, rfl⟩
  rw [hn] at x1 hB
  have HN := Lib.hid hn
  have HT := Lib.hid (ownTD_le hO.len c)
  clear hx hO hn
  unfold bp
  go_enter Tryz.func84, Tryz.ntmps84
  go_wp2_with fail
  go_loopw [5, 6] (fun m i wr => ∃ j : Nat, j ≤ n ∧ i = .int .i64 j ∧ m = .int .i64 (ownTD D.vols c j : Int) ∧ wr = w) (fun _ i _ => n - (intOf i).toNat)
  case atStart => exact ⟨0, Nat.zero_le _, rfl, rfl, rfl⟩
  case round =>
    obtain ⟨j, hj, rfl, rfl, rfl⟩ := hrel
    have hTj := HT.out j
    by_cases hlt : j < n
    · obtain ⟨v, hv⟩ : ∃ v, D.vols[j]? = some v := ⟨_, List.getElem?_eq_getElem (by rw [HN.out]; exact hlt)⟩
      obtain ⟨g, rfl, -, -, hR, -, hc, hf⟩ := HX.out.cell HO.out.len hv
      have hvl := HO.out.len v (List.mem_of_getElem? hv)
      have HC := Lib.hid hc
      have hgl := hR.lt
      have HV := Lib.hid hv
      have HVL := Lib.hid hvl
      have HS := Lib.hid (ownTD_succ (c := c) hv)
      obtain ⟨m0, hm0⟩ : ∃ m0, ownTD D.vols c j = m0 := ⟨_, rfl⟩
      rw [hm0] at hTj HS ⊢
      clear hv hR hc hf hvl
      go_wp2_with fail
      go_loopw [5, 7] (fun m i wr2 => ∃ k : Nat, k ≤ 64 ∧ i = .int .i64 k ∧ m = .int .i64 ((m0 + (v.pl.take k).count c : Nat) : Int) ∧ wr2 = wr) (fun _ i _ => 64 - (intOf i).toNat)
      case atStart => exact ⟨0, Nat.zero_le _, rfl, by simp, rfl⟩
      case round =>
        obtain ⟨k, hk, rfl, rfl, rfl⟩ := hrel
        have hck : (v.pl.take k).count c ≤ k := Nat.le_trans (List.count_le_length (a := c) (l := v.pl.take k)) (by rw [List.length_take]; omega)
        by_cases hlk : k < 64
        · have c0 := HC.out (5 + k) (by omega)
          rw [dvL_pl (by rw [HVL.out]; exact hlk), ← Nat.add_assoc] at c0
          have HT2 := Lib.hid (count_take (l := v.pl) (k := k) (by rw [HVL.out]; exact hlk) c)
          obtain ⟨y, hy⟩ : ∃ y, v.pl.getD k 0 = y := ⟨_, rfl⟩
          rw [hy] at c0 HT2
          obtain ⟨m1, hm1⟩ : ∃ m1, (v.pl.take k).count c = m1 := ⟨_, rfl⟩
          rw [hm1] at hck HT2 ⊢
          clear hm1 hy
          by_cases q : y = c
          · have qd : ((y : Int) == (c : Int)) = true := by simp [q]
            rw [if_pos q] at HT2
            clear q
            go_wp2_with fail
            go_roundw
            case rel => exact ⟨k + 1, by omega, by go_num, by rw [HT2.out]; go_num, by first | exact rfl | trivial⟩
            case measure => simp [intOf]; omega
          · have qd : ((y : Int) == (c : Int)) = false := by simpa using (fun e : (y : Int) = c => q (by omega))
            rw [if_neg q] at HT2
            clear q
            go_wp2_with fail
            go_roundw
            case rel => exact ⟨k + 1, by omega, by go_num, by rw [HT2.out]; go_num, by first | exact rfl | trivial⟩
            case measure => simp [intOf]; omega
        · obtain rfl : k = 64 := by omega
          rw [show v.pl.take 64 = v.pl by rw [List.take_of_length_le (by rw [HVL.out]; exact Nat.le_refl _)], ← HS.out]
          clear hck
          go_wp2_with fail
          exact ⟨⟨j + 1, by omega, by go_num, by go_num, by first | exact rfl | trivial⟩, by simp [intOf]; omega⟩
    · obtain rfl : j = n := by omega
      go_wp2_with fail
      exact HR.out _ _ ⟨by rw [show ownD D c = ownTD D.vols c j from (ownTD_all HN.out c).symm]; rfl, Mod.refl _ _⟩
theorem toVo_size (v : DV) : (toVo v).size = v.size := rfl
theorem drange_eq {id at_ n r : Int} (hO : DOk D) (hr : FindR D id r) :
    (r < 0 ∧ rangeS (toMS D) id at_ n = 7) ∨ (∃ (i : Nat) (v : DV), r = (i : Int) ∧ D.vols[i]? = some v ∧ v.id = id ∧ rangeS (toMS D) id at_ n = if at_ < 0 ∨ n < 1 ∨ 2 * (D.k : Int) < n then 1 else if v.size * D.k < at_ ∨ v.size * D.k - at_ < n then 9 else 0) := by
  rcases hr with ⟨i, v, h1, h2, h3⟩ | ⟨h1, h2⟩
  · refine .inr ⟨i, v, h1, h2, h3, ?_⟩
    unfold rangeS
    rw [← h3, hO.find h2]
    rfl
  · refine .inl ⟨by omega, ?_⟩
    unfold rangeS
    rw [find_noneD h2]
set_option maxHeartbeats 4000000 in
theorem drange_any (h : Dq F w p D) (hB : D.vols.length ≤ 10000) (id at_ n : Int) (ha : -9223372036854775808 ≤ at_ ∧ at_ < 9223372036854775808) (hn : -9223372036854775808 ≤ n ∧ n < 9223372036854775808) :
    Calls Tryz.prog 49 #[bp p, .int .i64 id, .int .i64 at_, .int .i64 n] w fun e w' => e = .returned (.int .i64 (rangeS (toMS D) id at_ n)) ∧ Same w w' := by
  refine opq fun R HR => ?_
  have HF := Lib.hid (dfind_any h (by omega) id)
  have HD := Lib.hid h
  obtain ⟨ha1, ha2⟩ := ha
  obtain ⟨hn1, hn2⟩ := hn
  clear h
  unfold bp at *
  go_enter Tryz.func49, Tryz.ntmps49
  go_wp2_with fail
  refine HF.out.mono ?_
  rintro e w1 ⟨r, rfl, hr, M⟩
  have N1 := Lib.hid M
  obtain ⟨hO, ga, gc, cv, gs, tag, hx⟩ := HD.out.same M
  rcases drange_eq (at_ := at_) (n := n) hO hr with ⟨hr0, e7⟩ | ⟨i, v, rfl, hv, -, e9⟩
  · rw [e7] at HR
    clear M hr hx hO e7
    go_wp2_with fail
    exact HR.out _ _ ⟨rfl, N1.out⟩
  · rw [e9] at HR
    have x0 := hx.blk.at_ (i := 0) _ rfl
    have x1 := hx.blk.at_ (i := 1) _ rfl
    have hk1 := hO.k1
    have hk8 := hO.k8
    have hsz := hO.sizes v (List.mem_of_getElem? hv)
    have hpl := hx.blk.lt
    obtain ⟨g, rfl, -, -, hR, hil, hc, hf⟩ := hx.cell hO.len hv
    have c2 := hc 2 (by decide)
    rw [show (dvL v).getD 2 undef = .int .i64 v.size from rfl] at c2
    have hgl := hR.lt
    obtain ⟨m, hm⟩ : ∃ m, D.vols.length = m := ⟨_, rfl⟩
    rw [hm] at x1 hil hB
    obtain ⟨sz, hz⟩ : ∃ sz : Nat, v.size = (sz : Int) := ⟨v.size.toNat, by omega⟩
    rw [hz] at c2 HR hsz
    obtain ⟨k, hk⟩ : ∃ k, D.k = k := ⟨_, rfl⟩
    rw [hk] at x0 HR hk1 hk8
    have hsz2 : sz ≤ 64 := by omega
    have hmul : sz * k ≤ 512 := Nat.le_trans (Nat.mul_le_mul hsz2 hk8) (by decide)
    obtain ⟨a, hal⟩ : ∃ a, sz * k = a := ⟨_, rfl⟩
    have hal2 : (sz : Int) * (k : Int) = (a : Int) := by rw [← hal]; simp
    rw [hal2] at HR
    rw [hal] at hmul
    have HAL := Lib.hid hal2
    clear M hr hx hO e9 hv hc hf hR hm hz hk hal hal2 hsz
    by_cases q1 : at_ < 0
    · rw [if_pos (.inl q1)] at HR
      go_wp2_with fail
      exact HR.out _ _ ⟨rfl, N1.out⟩
    by_cases q2 : n < 1
    · rw [if_pos (.inr (.inl q2))] at HR
      go_wp2_with fail
      exact HR.out _ _ ⟨rfl, N1.out⟩
    by_cases q3 : 2 * (k : Int) < n
    · rw [if_pos (.inr (.inr q3))] at HR
      go_wp2_with fail
      exact HR.out _ _ ⟨rfl, N1.out⟩
    rw [if_neg (by omega)] at HR
    have hmul2 : IntKind.i64.wrap ((sz : Int) * (k : Int)) = (a : Int) := by rw [HAL.out]; exact IntWalk.i64_in _ (by omega)
    have HAL2 := HAL.out
    go_upto_region 6 with fail
    go_big_quiet (fail)
    have N2 := Lib.hid (N1.out.drewN nq)
    clear HAL2 hmul2
    by_cases q4 : (a : Int) < at_
    · rw [if_pos (.inl q4)] at HR
      go_wp2_with fail
      exact HR.out _ _ ⟨rfl, N2.out⟩
    by_cases q5 : (a : Int) - at_ < n
    · rw [if_pos (.inr q5)] at HR
      go_wp2_with fail
      exact HR.out _ _ ⟨rfl, N2.out⟩
    rw [if_neg (by omega)] at HR
    go_wp2_with fail
    exact HR.out _ _ ⟨rfl, N2.out⟩
end
end Go.Proofs.YtlcepoagpocadaaGreatDoor
