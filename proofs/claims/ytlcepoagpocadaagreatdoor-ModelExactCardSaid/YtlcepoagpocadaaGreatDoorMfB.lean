import Derived.Test.YtlcepoagpocadaaGreatDoorMdK
set_option linter.unusedSimpArgs false
set_option linter.unusedVariables false
/- What a sector that is turned does to all others; how many chunks there are then. -/
namespace Go.Proofs.YtlcepoagpocadaaGreatDoor
open Go Go.RowKit
/-- A sector of a volume, by its number. -/
def secI (S : MS) (id : Int) (y : Nat) : List UInt8 := match findV S id with
  | some v => secS S v y
  | none => []
theorem secI_some {S : MS} {id : Int} {v : Vo} (h : findV S id = some v) (y : Nat) : secI S id y = secS S v y := by unfold secI; rw [h]
theorem find_rep_ne {v' : Vo} {j : Int} (hj : j ≠ v'.id) : ∀ l : List Vo, (repV v' l).find? (fun u => decide (u.id = j)) = l.find? (fun u => decide (u.id = j))
  | [] => rfl
  | y :: r => by
    have hc : repV v' (y :: r) = (if y.id = v'.id then v' else y) :: repV v' r := rfl
    rw [hc, List.find?_cons, List.find?_cons, find_rep_ne hj r]
    by_cases q : y.id = v'.id
    · rw [if_pos q]
      have h1 : decide (v'.id = j) = false := decide_eq_false (fun e => hj e.symm)
      have h2 : decide (y.id = j) = false := decide_eq_false (fun e => hj (by rw [← e, q]))
      rw [h1, h2]
    · rw [if_neg q]
theorem find_rep_eq {v' : Vo} {j : Int} (hj : j = v'.id) : ∀ {l : List Vo}, (∃ u ∈ l, u.id = j) → (repV v' l).find? (fun u => decide (u.id = j)) = some v'
  | [], h => by obtain ⟨u, hu, _⟩ := h; cases hu
  | y :: r, h => by
    have hc : repV v' (y :: r) = (if y.id = v'.id then v' else y) :: repV v' r := rfl
    rw [hc, List.find?_cons]
    by_cases q : y.id = v'.id
    · rw [if_pos q, show decide (v'.id = j) = true from decide_eq_true hj.symm]
    · rw [if_neg q, show decide (y.id = j) = false from decide_eq_false (fun e => q (by rw [e, hj]))]
      obtain ⟨u, hu, e⟩ := h
      rcases List.mem_cons.1 hu with rfl | hu
      · exact absurd (e.trans hj) q
      · exact find_rep_eq hj ⟨u, hu, e⟩
theorem find_put {S : MS} {id : Int} {v v' : Vo} (hf : findV S id = some v) (e : v'.id = v.id) (sec : Nat → List (List UInt8)) (j : Int) :
    findV { S with vols := repV v' S.vols, sec := sec } j = if j = id then some v' else findV S j := by
  obtain ⟨hv, hid⟩ := findV_mem hf
  by_cases q : j = id
  · rw [if_pos q]; exact find_rep_eq (by rw [q, e, hid]) ⟨v, hv, by rw [hid, q]⟩
  · rw [if_neg q]; exact find_rep_ne (by rw [e, hid]; exact q) _
theorem chunk_alone {S : MS} (W : Wf S) {v u : Vo} (hv : v ∈ S.vols) (hu : u ∈ S.vols) {p q : Int} {c : Nat} (h1 : getL p v.pl = some c) (h2 : getL q u.pl = some c) (hc : cnt S.vols c = 1) : u = v ∧ q = p := by
  have h := cnt_dels W hv p c
  rw [if_pos h1, hc] at h
  have h0 : cnt (repV { v with pl := delL p v.pl } S.vols) c = 0 := by omega
  have hno : ∀ x ∈ repV { v with pl := delL p v.pl } S.vols, ∀ y ∈ x.pl, y.2 ≠ c := fun x hx y hy e => by
    have := cnt_pos.2 ⟨x, hx, y, hy, e⟩; omega
  by_cases e : u.id = v.id
  · have e0 := pw_ne W.nd hu hv e
    refine ⟨e0, ?_⟩
    rw [e0] at h2
    by_cases e2 : q = p
    · exact e2
    · exact absurd rfl (hno _ (mem_rep hv rfl) (q, c) (mem_delL.2 ⟨getL_mem h2, e2⟩))
  · exfalso
    refine hno u ?_ (q, c) (getL_mem h2) rfl
    unfold repV
    exact List.mem_map.2 ⟨u, hu, by rw [if_neg e]⟩
theorem place_eq {x y k : Nat} : y = x ↔ y / k = x / k ∧ y % k = x % k :=
  ⟨fun e => by rw [e]; exact ⟨rfl, rfl⟩, fun e => by
    have h1 := Nat.div_add_mod y k
    have h2 := Nat.div_add_mod x k
    rw [e.1, e.2] at h1
    exact h1.symm.trans h2⟩
theorem set_sec2 {S S1 : MS} {id : Int} {v v' : Vo} {x c : Nat} {s : List UInt8} {row : List (List UInt8)} (hk : 1 ≤ S.k) (hf : findV S id = some v) (hf1 : ∀ j, findV S1 j = if j = id then some v' else findV S j) (e1 : S1.k = S.k)
    (e2 : v'.pl = putL ((x / S.k : Nat) : Int) c v.pl) (e3 : S1.sec = upd S.sec c row) (hr : ∀ i, i < S.k → row.getD i [] = if i = x % S.k then s else secS S v (x / S.k * S.k + i)) (c1 : cnt S.vols c = 0) (j : Int) (y : Nat) :
    secI S1 j y = if j = id ∧ y = x then s else secI S j y := by
  have hyk : y % S.k < S.k := Nat.mod_lt _ (by omega)
  have hv := (findV_mem hf).1
  have hno : ∀ u ∈ S.vols, ∀ q d, getL q u.pl = some d → d ≠ c := fun u hu q d hg e => by
    have := cnt_pos.2 ⟨u, hu, _, getL_mem hg, e⟩; omega
  unfold secI
  rw [hf1]
  by_cases q : j = id
  · rw [if_pos q, q, hf]
    dsimp only
    by_cases r : y / S.k = x / S.k
    · have hl : secS S1 v' y = row.getD (y % S.k) [] := by
        unfold secS
        rw [e1, e2, e3, getL_put, if_pos (by rw [r])]
        dsimp only
        rw [upd_same]
      rw [hl, hr _ hyk]
      by_cases t : y % S.k = x % S.k
      · rw [if_pos t, if_pos ⟨rfl, place_eq.2 ⟨r, t⟩⟩]
      · rw [if_neg t, if_neg (fun h => t (place_eq.1 h.2).2), ← r, Nat.div_add_mod']
    · have hr' : ¬ ((y / S.k : Nat) : Int) = ((x / S.k : Nat) : Int) := fun h => r (by exact_mod_cast h)
      rw [if_neg (fun h => r (by rw [h.2]))]
      unfold secS
      rw [e1, e2, e3, getL_put, if_neg hr']
      cases hg : getL ((y / S.k : Nat) : Int) v.pl with
      | none => rfl
      | some d => dsimp only; rw [upd_ne _ _ (hno v hv _ _ hg)]
  · rw [if_neg q, if_neg (fun h => q h.1)]
    cases hj : findV S j with
    | none => rfl
    | some u =>
      dsimp only
      unfold secS
      rw [e1, e3]
      cases hg : getL ((y / S.k : Nat) : Int) u.pl with
      | none => rfl
      | some d => dsimp only; rw [upd_ne _ _ (hno u (findV_mem hj).1 _ _ hg)]
theorem upd_upd {α : Type} (f : Nat → α) (i : Nat) (a b : α) : upd (upd f i a) i b = upd f i b := by
  funext j
  by_cases q : j = i
  · rw [q, upd_same, upd_same]
  · rw [upd_ne _ _ q, upd_ne _ _ q, upd_ne _ _ q]
theorem getD_set (l : List (List UInt8)) (i j : Nat) (s : List UInt8) (h : i < l.length) : (l.set i s).getD j [] = if j = i then s else l.getD j [] := by
  rw [List.getD_eq_getElem?_getD, List.getD_eq_getElem?_getD]
  by_cases q : j = i
  · rw [if_pos q, q, List.getElem?_set_self h]; rfl
  · rw [if_neg q, List.getElem?_set_ne (fun e => q e.symm)]
theorem set_sec {S S1 : MS} (G : Good S) (W : Wf S) {id : Int} {x : Nat} {s : List UInt8} (h : SetR S id x s S1) (j : Int) (y : Nat) :
    secI S1 j y = if j = id ∧ y = x then s else secI S j y := by
  obtain ⟨v, S2, c, hf, ho, rfl⟩ := h
  obtain ⟨hv, hid⟩ := findV_mem hf
  have hk := G.k1
  have hxk : x % S.k < S.k := Nat.mod_lt _ (by omega)
  rcases ho with ⟨g1, c1, hS⟩ | ⟨g1, c1, hS⟩
  · rw [hS]
    have hs := (G.secs v hv _ (getL_mem g1)).1
    have hfs : ∀ j, findV (setC S c (x % S.k) s) j = findV S j := fun _ => rfl
    unfold secI
    rw [hfs]
    cases hj : findV S j with
    | none =>
      dsimp only
      rw [if_neg]
      rintro ⟨rfl, _⟩
      rw [hf] at hj; cases hj
    | some u =>
      obtain ⟨hu, huid⟩ := findV_mem hj
      dsimp only
      cases hg : getL ((y / S.k : Nat) : Int) u.pl with
      | none =>
        have e1 : secS (setC S c (x % S.k) s) u y = zero16 := by
          unfold secS
          rw [show (setC S c (x % S.k) s).k = S.k from rfl, hg]
        have e2 : secS S u y = zero16 := by unfold secS; rw [hg]
        rw [e1, e2, if_neg]
        rintro ⟨q1, q2⟩
        rw [q1, hf] at hj; cases hj
        rw [q2, g1] at hg; cases hg
      | some d =>
        have e1 : secS (setC S c (x % S.k) s) u y = (upd S.sec c ((S.sec c).set (x % S.k) s) d).getD (y % S.k) [] := by
          unfold secS
          rw [show (setC S c (x % S.k) s).k = S.k from rfl, hg]
          rfl
        have e2 : secS S u y = (S.sec d).getD (y % S.k) [] := by unfold secS; rw [hg]
        rw [e1, e2]
        by_cases q : d = c
        · rw [q] at hg
          obtain ⟨e3, e4⟩ := chunk_alone W hv hu g1 hg c1
          have e4 : y / S.k = x / S.k := by exact_mod_cast e4
          have ej : j = id := by rw [← huid, ← hid, e3]
          rw [q, upd_same, getD_set _ _ _ _ (by rw [hs]; exact hxk)]
          by_cases e : y % S.k = x % S.k
          · rw [if_pos e, if_pos ⟨ej, place_eq.2 ⟨e4, e⟩⟩]
          · rw [if_neg e, if_neg (fun r => e (place_eq.1 r.2).2)]
        · rw [upd_ne _ _ q, if_neg]
          rintro ⟨q1, q2⟩
          rw [q1, hf] at hj; cases hj
          rw [q2, g1] at hg; cases hg; exact q rfl
  · rw [hS]
    refine set_sec2 (v' := { v with pl := putL ((x / S.k : Nat) : Int) c v.pl }) (row := ((List.range S.k).map fun i => secS S v (x / S.k * S.k + i)).set (x % S.k) s) hk hf (find_put (v' := { v with pl := putL ((x / S.k : Nat) : Int) c v.pl }) hf rfl _) rfl rfl ?_ ?_ c1 j y
    · show upd (upd S.sec c ((List.range S.k).map fun i => secS S v (x / S.k * S.k + i))) c ((upd S.sec c ((List.range S.k).map fun i => secS S v (x / S.k * S.k + i)) c).set (x % S.k) s) = _
      rw [upd_upd, show (upd S.sec c ((List.range S.k).map fun i => secS S v (x / S.k * S.k + i)) c) = ((List.range S.k).map fun i => secS S v (x / S.k * S.k + i)) from upd_same _ _ _]
    · intro i hi
      rw [getD_set _ _ _ _ (by simp; exact hxk)]
      by_cases q : i = x % S.k
      · rw [if_pos q, if_pos q]
      · rw [if_neg q, if_neg q, List.getD_eq_getElem?_getD]
        simp [hi]
theorem distinct_nodup : ∀ l : List Nat, (distinct l).Nodup
  | [] => List.Pairwise.nil
  | a :: r => by
    unfold distinct
    by_cases h : a ∈ distinct r
    · rw [if_pos h]; exact distinct_nodup r
    · rw [if_neg h]; exact List.nodup_cons.2 ⟨h, distinct_nodup r⟩
theorem nodup_le : ∀ {l l' : List Nat}, l.Nodup → (∀ a ∈ l, a ∈ l') → l.length ≤ l'.length
  | [], _, _, _ => Nat.zero_le _
  | a :: r, l', h, k => by
    obtain ⟨h1, h2⟩ := List.nodup_cons.1 h
    have ha := k a (by simp)
    have h3 := nodup_le (l' := l'.erase a) h2 (fun b hb => (List.mem_erase_of_ne (fun e : b = a => h1 (by rw [← e]; exact hb))).2 (k b (by simp [hb])))
    rw [List.length_erase_of_mem ha] at h3
    have h4 := List.length_pos_of_mem ha
    rw [List.length_cons]; omega
theorem count_more {l l' : List Nat} {c : Nat} (hc : c ∉ l) (h : ∀ a, a ∈ l' ↔ a = c ∨ a ∈ l) : (distinct l').length = (distinct l).length + 1 := by
  have h1 := nodup_le (l := distinct l') (l' := c :: distinct l) (distinct_nodup _) (fun a ha => by rw [List.mem_cons, mem_distinct]; exact (h a).1 (mem_distinct.1 ha))
  have h2 := nodup_le (l := c :: distinct l) (l' := distinct l') (List.nodup_cons.2 ⟨fun e => hc (mem_distinct.1 e), distinct_nodup _⟩) (fun a ha => mem_distinct.2 ((h a).2 (by rw [List.mem_cons, mem_distinct] at ha; exact ha)))
  rw [List.length_cons] at h1 h2; omega
/-- Each chunk stands at one place's index alone. -/
def OneP (S : MS) : Prop := ∀ v ∈ S.vols, ∀ x ∈ v.pl, ∀ u ∈ S.vols, ∀ y ∈ u.pl, x.2 = y.2 → x.1 = y.1
theorem OneP.sub {S S1 : MS} (O : OneP S) (h : ∀ u ∈ S1.vols, ∀ y ∈ u.pl, ∃ u' ∈ S.vols, y ∈ u'.pl) : OneP S1 := by
  intro v hv x hx u hu y hy e
  obtain ⟨v', hv', hx'⟩ := h v hv x hx
  obtain ⟨u', hu', hy'⟩ := h u hu y hy
  exact O v' hv' x hx' u' hu' y hy' e
def needI (S : MS) (id : Int) (p : Nat) : Bool := match findV S id with
  | some v => needS S v p
  | none => false
theorem set_need {S S1 : MS} (W : Wf S) (O : OneP S) {id : Int} {x : Nat} {s : List UInt8} (h : SetR S id x s S1) :
    OneP S1 ∧ (∀ p, needI S1 id p = if p = x / S.k then false else needI S id p) ∧ countS S1 = countS S + (if needI S id (x / S.k) = true then 1 else 0) := by
  obtain ⟨v, S2, c, hf, ho, rfl⟩ := h
  obtain ⟨hv, hid⟩ := findV_mem hf
  rcases ho with ⟨g1, c1, hS⟩ | ⟨g1, c1, hS⟩
  · rw [hS]
    have hn : needI S id (x / S.k) = false := by
      unfold needI
      rw [hf]
      dsimp only
      unfold needS
      rw [g1]
      dsimp only
      rw [c1]; rfl
    refine ⟨O, fun p => ?_, ?_⟩
    · by_cases q : p = x / S.k
      · rw [if_pos q, q]; exact hn
      · rw [if_neg q]; rfl
    · rw [hn]; rfl
  · rw [hS]
    have hno : ∀ u ∈ S.vols, ∀ y ∈ u.pl, y.2 ≠ c := fun u hu y hy e => by
      have := cnt_pos.2 ⟨u, hu, y, hy, e⟩; omega
    have hcp := fun e => cnt_put W hv ((x / S.k : Nat) : Int) c e
    have hgc : getL ((x / S.k : Nat) : Int) v.pl ≠ some c := fun e => hno v hv _ (getL_mem e) rfl
    have hcc := hcp c
    rw [if_neg hgc, if_pos rfl, c1] at hcc
    have hf1 : ∀ j sec, findV { S with vols := repV { v with pl := putL ((x / S.k : Nat) : Int) c v.pl } S.vols, sec := sec } j = if j = id then some { v with pl := putL ((x / S.k : Nat) : Int) c v.pl } else findV S j :=
      fun j sec => find_put (v' := { v with pl := putL ((x / S.k : Nat) : Int) c v.pl }) hf rfl sec j
    have hn : needI S id (x / S.k) = true := by
      unfold needI
      rw [hf]
      dsimp only
      unfold needS
      cases hg : getL ((x / S.k : Nat) : Int) v.pl with
      | none => rfl
      | some d =>
        dsimp only
        have h1 := g1 d hg
        have h2 := live_get hv hg
        exact decide_eq_true (by omega)
    refine ⟨?_, fun p => ?_, ?_⟩
    · have key : ∀ u ∈ repV { v with pl := putL ((x / S.k : Nat) : Int) c v.pl } S.vols, ∀ y ∈ u.pl, y = (((x / S.k : Nat) : Int), c) ∨ (∃ u' ∈ S.vols, y ∈ u'.pl) := by
        intro u hu y hy
        rcases mem_repV hu with rfl | ⟨hu, _⟩
        · rcases mem_putL.1 hy with h | ⟨h, _⟩
          · exact .inl h
          · exact .inr ⟨v, hv, h⟩
        · exact .inr ⟨u, hu, hy⟩
      intro a ha y hy b hb z hz e
      rcases key a ha y hy with h1 | ⟨a', ha', h1⟩
      · rcases key b hb z hz with h2 | ⟨b', hb', h2⟩
        · rw [h1, h2]
        · exact absurd (by rw [← e, h1]) (hno b' hb' z h2)
      · rcases key b hb z hz with h2 | ⟨b', hb', h2⟩
        · exact absurd (by rw [e, h2]) (hno a' ha' y h1)
        · exact O a' ha' y h1 b' hb' z h2 e
    · have hl : needI (setC { S with vols := repV { v with pl := putL ((x / S.k : Nat) : Int) c v.pl } S.vols, sec := upd S.sec c ((List.range S.k).map fun i => secS S v (x / S.k * S.k + i)) } c (x % S.k) s) id p =
          (match getL (p : Int) (putL ((x / S.k : Nat) : Int) c v.pl) with
            | none => true
            | some e => decide (1 < cnt (repV { v with pl := putL ((x / S.k : Nat) : Int) c v.pl } S.vols) e)) := by
        unfold needI
        have := hf1 id (upd (upd S.sec c ((List.range S.k).map fun i => secS S v (x / S.k * S.k + i))) c ((upd S.sec c ((List.range S.k).map fun i => secS S v (x / S.k * S.k + i)) c).set (x % S.k) s))
        rw [if_pos rfl] at this
        rw [show findV (setC { S with vols := repV { v with pl := putL ((x / S.k : Nat) : Int) c v.pl } S.vols, sec := upd S.sec c ((List.range S.k).map fun i => secS S v (x / S.k * S.k + i)) } c (x % S.k) s) id = _ from this]
        rfl
      rw [hl, getL_put]
      by_cases q : p = x / S.k
      · rw [if_pos q, if_pos (by rw [q])]
        dsimp only
        exact decide_eq_false (by omega)
      · rw [if_neg q, if_neg (fun e => q (by exact_mod_cast e))]
        unfold needI
        rw [hf]
        dsimp only
        unfold needS
        cases hg : getL (p : Int) v.pl with
        | none => rfl
        | some e =>
          dsimp only
          have h1 := hcp e
          rw [if_neg (fun r : c = e => hno v hv _ (getL_mem hg) r.symm)] at h1
          have h2 : getL ((x / S.k : Nat) : Int) v.pl ≠ some e := fun r => by
            have := O v hv _ (getL_mem r) v hv _ (getL_mem hg) rfl
            dsimp only at this
            exact q (by exact_mod_cast this.symm)
          rw [if_neg h2] at h1
          rw [show cnt (repV { v with pl := putL ((x / S.k : Nat) : Int) c v.pl } S.vols) e = cnt S.vols e by omega]
    · rw [hn, if_pos rfl]
      show (distinct (liveL (repV _ S.vols))).length = _
      refine count_more (c := c) (fun e => ?_) (fun a => ?_)
      · have := mem_live.1 e; omega
      · rw [mem_live, mem_live]
        have h1 := hcp a
        by_cases q : a = c
        · rw [q]; exact ⟨fun _ => .inl rfl, fun _ => by omega⟩
        · rw [if_neg (fun r : c = a => q r.symm)] at h1
          by_cases r : getL ((x / S.k : Nat) : Int) v.pl = some a
          · rw [if_pos r] at h1
            have h2 := g1 a r
            have h3 := live_get hv r
            exact ⟨fun _ => .inr h3, fun _ => by omega⟩
          · rw [if_neg r] at h1
            exact ⟨fun h => .inr (by omega), fun h => h.elim (fun e => absurd e q) (fun h => by omega)⟩
end Go.Proofs.YtlcepoagpocadaaGreatDoor
/- What a write makes the count of chunks; a volume's orders leave all others as they are. -/
namespace Go.Proofs.YtlcepoagpocadaaGreatDoor
open Go Go.RowKit
def seqL (a n : Nat) : List Nat := (List.range n).map (a + ·)
theorem seqL_succ (a n : Nat) : seqL a (n + 1) = a :: seqL (a + 1) n := by
  unfold seqL
  rw [List.range_succ_eq_map, List.map_cons, List.map_map]
  congr 1
  apply List.map_congr_left
  intro i _
  simp only [Function.comp]; omega
theorem mem_seqL {a n p : Nat} (h : p ∈ seqL a n) : a ≤ p := by
  unfold seqL at h
  obtain ⟨i, _, rfl⟩ := List.mem_map.1 h
  omega
theorem rangeP_seq (k x n : Nat) : rangeP k x n = seqL (x / k) ((x + n - 1) / k + 1 - x / k) := rfl
theorem filter_same {f g : Nat → Bool} {l : List Nat} (h : ∀ p ∈ l, f p = g p) : l.filter f = l.filter g := List.filter_congr h
theorem wr_one {id : Int} : ∀ {l : List (List UInt8)} {S S1 : MS} {x : Nat}, Wf S → OneP S → WrR l S id x S1 → OneP S1
  | [], S, S1, x, W, O, h => by
    have h : S1 = S := h
    rw [h]; exact O
  | s :: r, S, S1, x, W, O, h => by
    obtain ⟨S2, a, b⟩ := h
    exact wr_one (W.set a) (set_need W O a).1 b
theorem wr_count {id : Int} : ∀ {l : List (List UInt8)} {S S1 : MS} {x : Nat}, 1 ≤ S.k → Wf S → OneP S → l ≠ [] → WrR l S id x S1 →
    countS S1 = countS S + ((rangeP S.k x l.length).filter fun p => needI S id p).length
  | [], S, S1, x, hk, W, O, h0, h => absurd rfl h0
  | s :: r, S, S1, x, hk, W, O, h0, h => by
    obtain ⟨S2, a, b⟩ := h
    obtain ⟨O2, hn, hc⟩ := set_need W O a
    have hk2 : S2.k = S.k := (set_info W a).2
    by_cases hr : r = []
    · subst hr
      have b : S1 = S2 := b
      rw [b, hc, rangeP_seq]
      rw [show (x + [s].length - 1) / S.k + 1 - x / S.k = 0 + 1 by simp, seqL_succ, List.filter_cons]
      by_cases q : needI S id (x / S.k) = true
      · rw [if_pos q, if_pos q]; rfl
      · rw [if_neg q, if_neg q]; rfl
    · have ih := wr_count (l := r) (x := x + 1) (by rw [hk2]; exact hk) (W.set a) O2 hr b
      have hpos : 1 ≤ r.length := List.length_pos_iff.2 hr
      rw [ih, hc, hk2, rangeP_seq, rangeP_seq, List.length_cons]
      rw [show x + 1 + r.length - 1 = x + r.length by omega, show x + (r.length + 1) - 1 = x + r.length by omega]
      have h1 : x / S.k ≤ (x + 1) / S.k := Nat.div_le_div_right (by omega)
      have h2 : (x + 1) / S.k ≤ x / S.k + 1 := by
        rw [← Nat.add_div_right x (by omega)]
        exact Nat.div_le_div_right (by omega)
      have h3 : (x + 1) / S.k ≤ (x + r.length) / S.k := Nat.div_le_div_right (by omega)
      generalize (x + r.length) / S.k = e at *
      generalize (x + 1) / S.k = a' at *
      generalize x / S.k = a0 at *
      have hs : ∀ n, (seqL (a0 + 1) n).filter (fun p => needI S2 id p) = (seqL (a0 + 1) n).filter (fun p => needI S id p) := fun n => filter_same (fun p hp => by
        have := mem_seqL hp
        rw [hn p, if_neg (by omega)])
      have hl : ((seqL a' (e + 1 - a')).filter fun p => needI S2 id p).length = ((seqL (a0 + 1) (e - a0)).filter fun p => needI S id p).length := by
        rcases (show a' = a0 ∨ a' = a0 + 1 by omega) with q | q
        · rw [q, show e + 1 - a0 = (e - a0) + 1 by omega, seqL_succ, List.filter_cons, if_neg (by rw [hn, if_pos rfl]; decide), hs]
        · rw [q, show e + 1 - (a0 + 1) = e - a0 by omega, hs]
      rw [hl, show e + 1 - a0 = (e - a0) + 1 by omega, seqL_succ, List.filter_cons]
      by_cases q : needI S id a0 = true
      · rw [if_pos q, if_pos q, List.length_cons]; omega
      · rw [if_neg q, if_neg q]; omega
/-! ### each chunk at one place's index -/
theorem OneP.put {S : MS} (O : OneP S) {v v' : Vo} (hv : v ∈ S.vols) (h : ∀ y ∈ v'.pl, y ∈ v.pl) : OneP (putS S v') :=
  O.sub (fun u hu y hy => by
    rcases mem_repV hu with rfl | ⟨hu, _⟩
    · exact ⟨v, hv, h y hy⟩
    · exact ⟨u, hu, hy⟩)
theorem dis_one {S S1 : MS} (W : Wf S) (O : OneP S) {id : Int} {a n x : Nat} (h : DisS S id a n x S1) : OneP S1 := by
  obtain ⟨v, hf, h⟩ := h
  have hv := (findV_mem hf).1
  cases hg : getL ((x / S.k : Nat) : Int) v.pl with
  | none => rw [hg] at h; dsimp only at h; rw [h]; exact O
  | some c =>
    rw [hg] at h
    dsimp only at h
    by_cases q : wholeS S.k a n (x / S.k) = true
    · rw [if_pos q] at h; rw [h]
      exact O.put (v' := { v with pl := delL ((x / S.k : Nat) : Int) v.pl }) hv (fun y hy => (mem_delL.1 hy).1)
    · rw [if_neg q] at h; exact (set_need W O h).1
theorem disR_one {S : MS} (W : Wf S) (O : OneP S) {id : Int} {a n : Nat} : ∀ (i : Nat) {S1 : MS}, DisR S id a n i S1 → OneP S1 ∧ Wf S1
  | 0, S1, h => by
    have h : S1 = S := h
    rw [h]; exact ⟨O, W⟩
  | i + 1, S1, h => by
    obtain ⟨S2, p, q⟩ := h
    obtain ⟨O2, W2⟩ := disR_one W O i p
    exact ⟨dis_one W2 O2 q, W2.dis q⟩
theorem one_do {S S1 : MS} (W : Wf S) (O : OneP S) {k : Nat} {ns : List Int} {ts : List (List UInt8)} {e : Int} {d : List UInt8} {t : Bool} (h : DoR S k ns ts e d t S1) : OneP S1 := by
  unfold DoR at h
  by_cases q : ts.all (fun t => decide (t.length ≤ 512)) = false
  · rw [if_pos q] at h
    rw [h.2.2.2]; exact O
  · rw [if_neg q] at h
    generalize ns.getD 0 0 = a0 at h
    generalize ns.getD 1 0 = a1 at h
    generalize ns.getD 2 0 = a2 at h
    generalize ts.getD 0 [] = t0 at h
    split at h
    · obtain ⟨⟨b, pb, e1⟩, -, -⟩ := h
      unfold createS at e1
      by_cases r : a0 < 1 ∨ 16 < a0 ∨ a1 < 0 ∨ 64 < a1
      · rw [if_pos r] at e1; cases e1; exact O
      · rw [if_neg r] at e1
        cases hf : findV S a0 with
        | some v => rw [hf] at e1; cases e1; exact O
        | none =>
          rw [hf] at e1
          cases e1
          refine O.sub (fun u hu y hy => ?_)
          rcases mem_insV.1 hu with rfl | hu
          · cases hy
          · exact ⟨u, hu, hy⟩
    · obtain ⟨e1, -, -⟩ := h
      unfold deleteS at e1
      cases hf : findV S a0 with
      | none => rw [hf] at e1; cases e1; exact O
      | some v =>
        rw [hf] at e1
        cases e1
        exact O.sub (fun u hu y hy => ⟨u, (mem_remV.1 hu).1, hy⟩)
    · obtain ⟨⟨b, pb, e1⟩, -, -⟩ := h
      unfold snapS at e1
      cases hf : findV S a0 with
      | none => rw [hf] at e1; cases e1; exact O
      | some v =>
        rw [hf] at e1
        dsimp only at e1
        have hv := (findV_mem hf).1
        by_cases r : a1 < 1 ∨ 16 < a1
        · rw [if_pos r] at e1; cases e1; exact O
        · rw [if_neg r] at e1
          cases hf2 : findV S a1 with
          | some v2 => rw [hf2] at e1; cases e1; exact O
          | none =>
            rw [hf2] at e1
            cases e1
            refine O.sub (fun u hu y hy => ?_)
            rcases mem_insV.1 hu with rfl | hu
            · exact ⟨v, hv, hy⟩
            · exact ⟨u, hu, hy⟩
    · obtain ⟨e1, -, -⟩ := h
      unfold resizeS at e1
      cases hf : findV S a0 with
      | none => rw [hf] at e1; cases e1; exact O
      | some v =>
        rw [hf] at e1
        dsimp only at e1
        have hv := (findV_mem hf).1
        by_cases r : a1 < 0 ∨ 64 < a1
        · rw [if_pos r] at e1; cases e1; exact O
        · rw [if_neg r] at e1
          cases e1
          exact O.put (v' := { v with size := a1, pl := trimL a1 v.pl }) hv (fun y hy => (List.mem_filter.1 hy).1)
    · obtain ⟨e1, -, -⟩ := h
      unfold pinS at e1
      cases hf : findV S a0 with
      | none => rw [hf] at e1; cases e1; exact O
      | some v =>
        rw [hf] at e1
        cases e1
        exact O.put (v' := { v with pin := true }) (findV_mem hf).1 (fun y hy => hy)
    · obtain ⟨e1, -, -⟩ := h
      unfold pinS at e1
      cases hf : findV S a0 with
      | none => rw [hf] at e1; cases e1; exact O
      | some v =>
        rw [hf] at e1
        cases e1
        exact O.put (v' := { v with pin := false }) (findV_mem hf).1 (fun y hy => hy)
    · rw [h.1]; exact O
    · obtain ⟨-, -, -, h⟩ := h
      by_cases r : writeE S a0 a1 t0 = 0
      · rw [if_pos r] at h; exact wr_one W O h
      · rw [if_neg r] at h; rw [h]; exact O
    · obtain ⟨-, -, -, h⟩ := h
      by_cases r : rangeS S a0 a1 a2 = 0
      · rw [if_pos r] at h; exact (disR_one W O _ h).1
      · rw [if_neg r] at h; rw [h]; exact O
    · rw [h.2.2.2]; exact O
    · rw [h.2.2.2]; exact O
/-! ### all others stay -/
/-- A volume is as it was. -/
def Stay (S S1 : MS) (j : Int) : Prop := ∀ u, findV S j = some u → ∃ u', findV S1 j = some u' ∧ infoV u' = infoV u ∧ ∀ y, secS S1 u' y = secS S u y
theorem Stay.refl (S : MS) (j : Int) : Stay S S j := fun u h => ⟨u, h, rfl, fun _ => rfl⟩
theorem Stay.trans {S S1 S2 : MS} {j : Int} (h1 : Stay S S1 j) (h2 : Stay S1 S2 j) : Stay S S2 j := fun u h => by
  obtain ⟨u1, a1, b1, c1⟩ := h1 u h
  obtain ⟨u2, a2, b2, c2⟩ := h2 u1 a1
  exact ⟨u2, a2, b2.trans b1, fun y => (c2 y).trans (c1 y)⟩
theorem Stay.of {S S1 : MS} {j : Int} (e : findV S1 j = findV S j) (ek : S1.k = S.k) (es : S1.sec = S.sec) : Stay S S1 j := fun u h => by
  refine ⟨u, e.trans h, rfl, fun y => ?_⟩
  unfold secS
  rw [ek, es]
theorem stay_set {S S1 : MS} (G : Good S) (W : Wf S) {id : Int} {x : Nat} {s : List UInt8} (h : SetR S id x s S1) {j : Int} (hj : j ≠ id) : Stay S S1 j := fun u hu => by
  obtain ⟨u', h1, h2⟩ := info_find (set_info W h).1 hu
  refine ⟨u', h1, h2, fun y => ?_⟩
  have := set_sec G W h j y
  rw [if_neg (fun e => hj e.1), secI_some hu, secI_some h1] at this
  exact this
theorem stay_wr {id : Int} {v : Vo} {j : Int} (hj : j ≠ id) : ∀ {l : List (List UInt8)} {S S1 : MS} {x : Nat}, Good S → Wf S → findV S id = some v → ((x + l.length : Nat) : Int) ≤ v.size * S.k → (∀ s ∈ l, s.length = 16) → WrR l S id x S1 → Stay S S1 j := by
  intro l
  induction l generalizing v with
  | nil =>
    intro S S1 x G W _ _ _ h
    have h : S1 = S := h
    rw [h]; exact Stay.refl _ _
  | cons s r ih =>
    intro S S1 x G W hf hl hs h
    obtain ⟨S2, a, b⟩ := h
    rw [List.length_cons] at hl
    obtain ⟨i1, i2⟩ := set_info W a
    obtain ⟨u, hu, e⟩ := info_find i1 hf
    exact (stay_set G W a hj).trans (ih (v := u) (G.set W hf (by omega) (hs s (by simp)) a) (W.set a) hu (by rw [infoV_size e, i2]; omega) (fun t ht => hs t (by simp [ht])) b)
theorem stay_put {S : MS} {id j : Int} {v v' : Vo} (hf : findV S id = some v) (e : v'.id = v.id) (hj : j ≠ id) : Stay S (putS S v') j :=
  Stay.of (by unfold putS; rw [find_put (v' := v') hf e S.sec j, if_neg hj]) rfl rfl
theorem stay_dis {S S1 : MS} (G : Good S) (W : Wf S) {id : Int} {a n x : Nat} (h : DisS S id a n x S1) {j : Int} (hj : j ≠ id) : Stay S S1 j := by
  obtain ⟨v, hf, h⟩ := h
  cases hg : getL ((x / S.k : Nat) : Int) v.pl with
  | none => rw [hg] at h; dsimp only at h; rw [h]; exact Stay.refl _ _
  | some c =>
    rw [hg] at h
    dsimp only at h
    by_cases q : wholeS S.k a n (x / S.k) = true
    · rw [if_pos q] at h; rw [h]; exact stay_put (v' := { v with pl := delL ((x / S.k : Nat) : Int) v.pl }) hf rfl hj
    · rw [if_neg q] at h; exact stay_set G W h hj
theorem stay_disR {S : MS} (G : Good S) (W : Wf S) {id : Int} {v : Vo} {a n : Nat} (hf : findV S id = some v) {j : Int} (hj : j ≠ id) : ∀ (i : Nat) {S1 : MS}, ((a + i : Nat) : Int) ≤ v.size * S.k → DisR S id a n i S1 → Stay S S1 j
  | 0, S1, _, h => by
    have h : S1 = S := h
    rw [h]; exact Stay.refl _ _
  | i + 1, S1, hl, h => by
    obtain ⟨S2, p, q⟩ := h
    obtain ⟨G2, W2, i1, i2⟩ := good_disR G W hf i (by omega) p
    exact (stay_disR G W hf hj i (by omega) p).trans (stay_dis G2 W2 q hj)
theorem find_ins_ne {v : Vo} {j : Int} (hj : j ≠ v.id) : ∀ l : List Vo, (insV v l).find? (fun u => decide (u.id = j)) = l.find? (fun u => decide (u.id = j))
  | [] => by
    rw [insV, List.find?_cons, show decide (v.id = j) = false from decide_eq_false (fun e => hj e.symm)]
  | y :: r => by
    rw [insV]
    split
    · rw [List.find?_cons, show decide (v.id = j) = false from decide_eq_false (fun e => hj e.symm)]
    · rw [List.find?_cons, find_ins_ne hj r, List.find?_cons]
theorem find_ins_eq {v : Vo} : ∀ {l : List Vo}, (∀ u ∈ l, u.id ≠ v.id) → (insV v l).find? (fun u => decide (u.id = v.id)) = some v
  | [], _ => by rw [insV, List.find?_cons, show decide (v.id = v.id) = true from decide_eq_true rfl]
  | y :: r, h => by
    rw [insV]
    split
    · rw [List.find?_cons, show decide (v.id = v.id) = true from decide_eq_true rfl]
    · rw [List.find?_cons, show decide (y.id = v.id) = false from decide_eq_false (h y (by simp)), find_ins_eq (fun u hu => h u (by simp [hu]))]
theorem find_rem_ne {id j : Int} (hj : j ≠ id) : ∀ l : List Vo, (remV id l).find? (fun u => decide (u.id = j)) = l.find? (fun u => decide (u.id = j))
  | [] => rfl
  | y :: r => by
    have ih := find_rem_ne hj r
    unfold remV at ih ⊢
    rw [List.filter_cons, List.find?_cons]
    by_cases q : y.id = id
    · simp only [q, decide_true, Bool.not_true, Bool.false_eq_true, if_false]
      rw [ih, show decide (id = j) = false from decide_eq_false (fun e => hj e.symm)]
    · simp only [q, decide_false, Bool.not_false, if_true]
      rw [List.find?_cons, ih]
theorem find_rem_eq {id : Int} (l : List Vo) : (remV id l).find? (fun u => decide (u.id = id)) = none := by
  rw [List.find?_eq_none]
  intro u hu
  simp [(mem_remV.1 hu).2]
theorem findV_none {S : MS} {id : Int} (h : findV S id = none) : ∀ u ∈ S.vols, u.id ≠ id := fun u hu e => by
  have := List.find?_eq_none.1 h u hu
  simp [e] at this
/-- The volume that an order is of. -/
def ofK (k : Nat) (ns : List Int) : Int := if k = 2 then ns.getD 1 0 else ns.getD 0 0
theorem stay_do {S S1 : MS} (G : Good S) (W : Wf S) {k : Nat} {ns : List Int} {ts : List (List UInt8)} {e : Int} {d : List UInt8} {t : Bool} (h : DoR S k ns ts e d t S1) {j : Int} (hj : j ≠ ofK k ns) : Stay S S1 j := by
  unfold DoR at h
  unfold ofK at hj
  by_cases q : ts.all (fun t => decide (t.length ≤ 512)) = false
  · rw [if_pos q] at h
    rw [h.2.2.2]; exact Stay.refl _ _
  · rw [if_neg q] at h
    generalize ns.getD 0 0 = a0 at h hj
    generalize ns.getD 1 0 = a1 at h hj
    generalize ns.getD 2 0 = a2 at h
    generalize ts.getD 0 [] = t0 at h
    split at h
    · rw [if_neg (by decide)] at hj
      obtain ⟨⟨b, pb, e1⟩, -, -⟩ := h
      unfold createS at e1
      by_cases r : a0 < 1 ∨ 16 < a0 ∨ a1 < 0 ∨ 64 < a1
      · rw [if_pos r] at e1; cases e1; exact Stay.refl _ _
      · rw [if_neg r] at e1
        cases hf : findV S a0 with
        | some v => rw [hf] at e1; cases e1; exact Stay.refl _ _
        | none =>
          rw [hf] at e1
          cases e1
          exact Stay.of (find_ins_ne (v := ⟨b, pb, a0, a1, 0, false, []⟩) hj _) rfl rfl
    · rw [if_neg (by decide)] at hj
      obtain ⟨e1, -, -⟩ := h
      unfold deleteS at e1
      cases hf : findV S a0 with
      | none => rw [hf] at e1; cases e1; exact Stay.refl _ _
      | some v =>
        rw [hf] at e1
        cases e1
        exact Stay.of (find_rem_ne hj _) rfl rfl
    · rw [if_pos rfl] at hj
      obtain ⟨⟨b, pb, e1⟩, -, -⟩ := h
      unfold snapS at e1
      cases hf : findV S a0 with
      | none => rw [hf] at e1; cases e1; exact Stay.refl _ _
      | some v =>
        rw [hf] at e1
        dsimp only at e1
        by_cases r : a1 < 1 ∨ 16 < a1
        · rw [if_pos r] at e1; cases e1; exact Stay.refl _ _
        · rw [if_neg r] at e1
          cases hf2 : findV S a1 with
          | some v2 => rw [hf2] at e1; cases e1; exact Stay.refl _ _
          | none =>
            rw [hf2] at e1
            cases e1
            exact Stay.of (find_ins_ne (v := ⟨b, pb, a1, v.size, a0, false, v.pl⟩) hj _) rfl rfl
    · rw [if_neg (by decide)] at hj
      obtain ⟨e1, -, -⟩ := h
      unfold resizeS at e1
      cases hf : findV S a0 with
      | none => rw [hf] at e1; cases e1; exact Stay.refl _ _
      | some v =>
        rw [hf] at e1
        dsimp only at e1
        by_cases r : a1 < 0 ∨ 64 < a1
        · rw [if_pos r] at e1; cases e1; exact Stay.refl _ _
        · rw [if_neg r] at e1
          cases e1
          exact stay_put (v' := { v with size := a1, pl := trimL a1 v.pl }) hf rfl hj
    · rw [if_neg (by decide)] at hj
      obtain ⟨e1, -, -⟩ := h
      unfold pinS at e1
      cases hf : findV S a0 with
      | none => rw [hf] at e1; cases e1; exact Stay.refl _ _
      | some v =>
        rw [hf] at e1
        cases e1
        exact stay_put (v' := { v with pin := true }) hf rfl hj
    · rw [if_neg (by decide)] at hj
      obtain ⟨e1, -, -⟩ := h
      unfold pinS at e1
      cases hf : findV S a0 with
      | none => rw [hf] at e1; cases e1; exact Stay.refl _ _
      | some v =>
        rw [hf] at e1
        cases e1
        exact stay_put (v' := { v with pin := false }) hf rfl hj
    · rw [h.1]; exact Stay.refl _ _
    · rw [if_neg (by decide)] at hj
      obtain ⟨-, -, -, h⟩ := h
      by_cases r : writeE S a0 a1 t0 = 0
      · rw [if_pos r] at h
        unfold writeE at r
        cases hf : findV S a0 with
        | none => rw [hf] at r; simp at r
        | some v =>
          rw [hf] at r
          dsimp only at r
          by_cases q2 : t0.length % 16 ≠ 0
          · rw [if_pos q2] at r; simp at r
          · rw [if_neg q2] at r
            obtain ⟨v', hv', h1, h2, h3, h4⟩ := range_zero r
            rw [hf] at hv'
            cases hv'
            exact stay_wr (l := cut16 t0) (x := a1.toNat) hj G W hf (by rw [cut16_len]; omega) (cut16_16 t0) h
      · rw [if_neg r] at h; rw [h]; exact Stay.refl _ _
    · rw [if_neg (by decide)] at hj
      obtain ⟨-, -, -, h⟩ := h
      by_cases r : rangeS S a0 a1 a2 = 0
      · rw [if_pos r] at h
        obtain ⟨v, hf, h1, h2, h3, h4⟩ := range_zero r
        exact stay_disR (a := a1.toNat) (n := a2.toNat) G W hf hj a2.toNat (by omega) h
      · rw [if_neg r] at h; rw [h]; exact Stay.refl _ _
    · rw [h.2.2.2]; exact Stay.refl _ _
    · rw [h.2.2.2]; exact Stay.refl _ _
end Go.Proofs.YtlcepoagpocadaaGreatDoor
/- Counts behind an order; a snap of a snap is as one of the volume. -/
namespace Go.Proofs.YtlcepoagpocadaaGreatDoor
open Go Go.RowKit
theorem count_eq {l l' : List Nat} (h : ∀ a, a ∈ l' ↔ a ∈ l) : (distinct l').length = (distinct l).length := by
  have h1 := nodup_le (l := distinct l') (l' := distinct l) (distinct_nodup _) (fun a ha => mem_distinct.2 ((h a).1 (mem_distinct.1 ha)))
  have h2 := nodup_le (l := distinct l) (l' := distinct l') (distinct_nodup _) (fun a ha => mem_distinct.2 ((h a).2 (mem_distinct.1 ha)))
  omega
theorem create_count {S S1 : MS} {ns : List Int} {ts : List (List UInt8)} {e : Int} {d : List UInt8} {t : Bool} (h : DoR S 0 ns ts e d t S1) : countS S1 = countS S := by
  unfold DoR at h
  by_cases q : ts.all (fun t => decide (t.length ≤ 512)) = false
  · rw [if_pos q] at h
    rw [h.2.2.2]
  · rw [if_neg q] at h
    obtain ⟨⟨b, pb, e1⟩, -, -⟩ := h
    unfold createS at e1
    generalize ns.getD 0 0 = a0 at e1
    generalize ns.getD 1 0 = a1 at e1
    by_cases r : a0 < 1 ∨ 16 < a0 ∨ a1 < 0 ∨ 64 < a1
    · rw [if_pos r] at e1; cases e1; rfl
    · rw [if_neg r] at e1
      cases hf : findV S a0 with
      | some v => rw [hf] at e1; cases e1; rfl
      | none =>
        rw [hf] at e1
        cases e1
        refine count_eq (fun a => ?_)
        rw [mem_live, mem_live]
        show 0 < cnt (insV _ S.vols) a ↔ _
        rw [cnt_ins, cntL_nil, Nat.zero_add]
theorem wantS7 (S : MS) (ns : List Int) (ts : List (List UInt8)) : wantS S 7 ns ts = match findV S (ns.getD 0 0) with
    | none => 0
    | some v => if writeE S (ns.getD 0 0) (ns.getD 1 0) (ts.getD 0 []) = 0 then ((rangeP S.k (ns.getD 1 0).toNat ((ts.getD 0 []).length / 16)).filter fun p => needS S v p).length else 0 := rfl
theorem write_count {S S1 : MS} (G : Good S) (W : Wf S) (O : OneP S) {ns : List Int} {ts : List (List UInt8)} {d : List UInt8} {t : Bool} (h : DoR S 7 ns ts 0 d t S1) : countS S1 = countS S + wantS S 7 ns ts := by
  unfold DoR at h
  by_cases q : ts.all (fun t => decide (t.length ≤ 512)) = false
  · rw [if_pos q] at h
    exact absurd h.1 (by decide)
  · rw [if_neg q] at h
    obtain ⟨-, -, h0, h⟩ := h
    rw [wantS7]
    generalize ns.getD 0 0 = a0 at h h0 ⊢
    generalize ns.getD 1 0 = a1 at h h0 ⊢
    generalize ts.getD 0 [] = t0 at h h0 ⊢
    have h0 := h0.symm
    rw [if_pos h0] at h
    have hz := h0
    unfold writeE at h0
    cases hf : findV S a0 with
    | none => rw [hf] at h0; simp at h0
    | some v =>
      rw [hf] at h0
      dsimp only at h0
      by_cases q2 : t0.length % 16 ≠ 0
      · rw [if_pos q2] at h0; simp at h0
      · rw [if_neg q2] at h0
        obtain ⟨v', hv', h1, h2, h3, h4⟩ := range_zero h0
        have := wr_count G.k1 W O (l := cut16 t0) (fun e => by
          have := congrArg List.length e
          rw [cut16_len] at this
          simp at this; omega) h
        rw [this, cut16_len]
        dsimp only
        rw [if_pos hz]
        congr 2
        apply List.filter_congr
        intro p _
        unfold needI
        rw [hf]
theorem del_find {S S1 : MS} {id e : Int} {d : List UInt8} {t : Bool} (h : DoR S 1 [id] [] e d t S1) : findV S1 id = none ∧ (∀ j, j ≠ id → findV S1 j = findV S j) := by
  unfold DoR at h
  rw [if_neg (by decide)] at h
  have e1 : (e, S1) = deleteS S id := h.1
  unfold deleteS at e1
  cases hf : findV S id with
  | none => rw [hf] at e1; cases e1; exact ⟨hf, fun _ _ => rfl⟩
  | some v =>
    rw [hf] at e1
    cases e1
    exact ⟨find_rem_eq _, fun j hj => find_rem_ne hj _⟩
theorem snap_do {S S1 : MS} {fr to e : Int} {d : List UInt8} {t : Bool} (h : DoR S 2 [fr, to] [] e d t S1) :
    (e = 0 → ∃ v b pb, findV S fr = some v ∧ findV S to = none ∧ findV S1 to = some ⟨b, pb, to, v.size, fr, false, v.pl⟩ ∧ (∀ j, j ≠ to → findV S1 j = findV S j) ∧ S1.k = S.k ∧ S1.sec = S.sec) ∧
    ((∃ v, findV S fr = some v) → 1 ≤ to → to ≤ 16 → findV S to = none → e = 0) := by
  unfold DoR at h
  rw [if_neg (by decide)] at h
  obtain ⟨b, pb, e1⟩ : ∃ b pb, (e, S1) = snapS S fr to b pb := h.1
  unfold snapS at e1
  cases hf : findV S fr with
  | none =>
    rw [hf] at e1; cases e1
    exact ⟨fun q => absurd q (by decide), fun ⟨v, hv⟩ => by cases hv⟩
  | some v =>
    rw [hf] at e1
    dsimp only at e1
    by_cases r : to < 1 ∨ 16 < to
    · rw [if_pos r] at e1; cases e1
      exact ⟨fun q => absurd q (by decide), fun _ h1 h2 _ => by omega⟩
    · rw [if_neg r] at e1
      cases hf2 : findV S to with
      | some v2 =>
        rw [hf2] at e1; cases e1
        exact ⟨fun q => absurd q (by decide), fun _ _ _ h3 => by cases h3⟩
      | none =>
        rw [hf2] at e1
        cases e1
        refine ⟨fun _ => ⟨v, b, pb, rfl, rfl, ?_, fun j hj => find_ins_ne (v := ⟨b, pb, to, v.size, fr, false, v.pl⟩) hj _, rfl, rfl⟩, fun _ _ _ _ => rfl⟩
        exact find_ins_eq (v := ⟨b, pb, to, v.size, fr, false, v.pl⟩) (findV_none hf2)
theorem write_do {S S1 : MS} {id x e : Int} {T : List UInt8} {d : List UInt8} {t : Bool} (hT : T.length = 16) {v : Vo} (hf : findV S id = some v) (h : DoR S 7 [id, x] [T] e d t S1) :
    e = rangeS S id x 1 ∧ (e = 0 → SetR S id x.toNat T S1) ∧ (e ≠ 0 → S1 = S) := by
  unfold DoR at h
  rw [if_neg (by simp [hT])] at h
  obtain ⟨-, -, h0, h⟩ := h
  have h0 : e = writeE S id x T := h0
  have h : if writeE S id x T = 0 then WrR (cut16 T) S id x.toNat S1 else S1 = S := h
  have hw : writeE S id x T = rangeS S id x 1 := by
    unfold writeE
    rw [hf]
    dsimp only
    rw [hT]
    rfl
  rw [← h0] at h
  refine ⟨h0.trans hw, fun q => ?_, fun q => ?_⟩
  · rw [if_pos q] at h
    have hc : cut16 T = [T] := by
      unfold cut16
      rw [hT]
      show [(T.drop 0).take 16] = [T]
      rw [List.drop_zero, List.take_of_length_le (by omega)]
    rw [hc] at h
    obtain ⟨S2, h1, h2⟩ := h
    have h2 : S1 = S2 := h2
    rw [h2]; exact h1
  · rw [if_neg q] at h; exact h
theorem cnt_two {l : List Vo} (nd : l.Pairwise fun a b => a.id < b.id) {u v : Vo} (hu : u ∈ l) (hv : v ∈ l) (hne : u.id ≠ v.id) {c : Nat} {x y : Int × Nat} (hx : x ∈ u.pl) (hy : y ∈ v.pl) (ex : x.2 = c) (ey : y.2 = c) : 2 ≤ cnt l c := by
  have h := cnt_rem (v := v) c nd hv
  have h1 : 0 < cnt (remV v.id l) c := cnt_pos.2 ⟨u, mem_remV.2 ⟨hu, hne⟩, x, hx, ex⟩
  have h2 : 0 < cntL c v.pl := cntL_pos.2 ⟨y, hy, ey⟩
  omega
def dumpV (S : MS) (v : Vo) : List UInt8 := readS S v 0 (v.size.toNat * S.k)
theorem dumpV_same {S T : MS} {v u : Vo} (ek : T.k = S.k) (e : u.size = v.size) (h : ∀ y, secS T u y = secS S v y) : dumpV T u = dumpV S v := by
  unfold dumpV readS
  rw [ek, e]
  congr 1
  funext i
  exact h _
theorem want_one {S : MS} {id x : Int} {T : List UInt8} (hT : T.length = 16) {v : Vo} (hf : findV S id = some v) :
    wantS S 7 [id, x] [T] = if rangeS S id x 1 = 0 then ((rangeP S.k x.toNat 1).filter fun p => needS S v p).length else 0 := by
  rw [wantS7, show findV S (List.getD [id, x] 0 0) = some v from hf]
  show (if writeE S id x T = 0 then ((rangeP S.k x.toNat (T.length / 16)).filter fun p => needS S v p).length else 0) = _
  have hw : writeE S id x T = rangeS S id x 1 := by
    unfold writeE
    rw [hf]
    dsimp only
    rw [hT]
    rfl
  rw [hw, hT]
/-- A snap of a snap is as one of the volume. -/
theorem snaps_law {S3 S4 S5 S6 : MS} {e5 e6 : Int} {d4 d5 d6 : List UInt8} {t4 t5 t6 : Bool} (n15 : findV S3 15 = none) (n16 : findV S3 16 = none) (G6 : Good S6) (W6 : Wf S6)
    (h4 : DoR S3 2 [1, 14] [] 0 d4 t4 S4) (h5 : DoR S4 2 [1, 15] [] e5 d5 t5 S5) (h6 : DoR S5 2 [14, 16] [] e6 d6 t6 S6) (x : Int) (T : List UInt8) (hT : T.length = 16) :
    e5 = 0 ∧ e6 = 0 ∧ wantS S6 7 [15, x] [T] = wantS S6 7 [16, x] [T] ∧
    ∀ S7 S8 e7 e8 d7 d8 t7 t8, DoR S6 7 [15, x] [T] e7 d7 t7 S7 → DoR S7 7 [16, x] [T] e8 d8 t8 S8 → e7 = e8 ∧
      ∃ u v, findV S8 15 = some u ∧ findV S8 16 = some v ∧ dumpV S8 u = dumpV S8 v := by
  obtain ⟨v1, b4, p4, f1, n14, f14, o4, k4, s4⟩ := (snap_do h4).1 rfl
  have f1' : findV S4 1 = some v1 := by rw [o4 1 (by decide)]; exact f1
  have n15' : findV S4 15 = none := by rw [o4 15 (by decide)]; exact n15
  have he5 : e5 = 0 := (snap_do h5).2 ⟨v1, f1'⟩ (by decide) (by decide) n15'
  obtain ⟨v1', b5, p5, f1'', -, f15, o5, k5, s5⟩ := (snap_do h5).1 he5
  rw [f1'] at f1''
  cases f1''
  have f14' : findV S5 14 = some ⟨b4, p4, 14, v1.size, 1, false, v1.pl⟩ := by rw [o5 14 (by decide)]; exact f14
  have n16' : findV S5 16 = none := by rw [o5 16 (by decide), o4 16 (by decide)]; exact n16
  have he6 : e6 = 0 := (snap_do h6).2 ⟨_, f14'⟩ (by decide) (by decide) n16'
  obtain ⟨v14, b6, p6, f14'', -, f16, o6, k6, s6⟩ := (snap_do h6).1 he6
  rw [f14'] at f14''
  cases f14''
  have f15' : findV S6 15 = some ⟨b5, p5, 15, v1.size, 1, false, v1.pl⟩ := by rw [o6 15 (by decide)]; exact f15
  have f16 : findV S6 16 = some ⟨b6, p6, 16, v1.size, 14, false, v1.pl⟩ := f16
  have hr : rangeS S6 16 x 1 = rangeS S6 15 x 1 := by
    unfold rangeS
    rw [f15', f16]
  refine ⟨he5, he6, ?_, ?_⟩
  · rw [want_one hT f15', want_one hT f16, hr]
    rfl
  · intro S7 S8 e7 e8 d7 d8 t7 t8 h7 h8
    obtain ⟨r7, z7, nz7⟩ := write_do hT f15' h7
    by_cases q : e7 = 0
    · have st := z7 q
      obtain ⟨i1, i2⟩ := set_info W6 st
      obtain ⟨u15, hu15, iu15⟩ := info_find i1 f15'
      obtain ⟨u16, hu16, iu16⟩ := info_find i1 f16
      obtain ⟨r8, z8, nz8⟩ := write_do hT hu16 h8
      have hr8 : rangeS S7 16 x 1 = rangeS S6 16 x 1 := by
        unfold rangeS
        rw [hu16, f16, i2]
        dsimp only
        have hz : u16.size = v1.size := (infoV_size iu16 :)
        rw [hz]
      have he : e7 = e8 := by rw [r7, r8, hr8, hr]
      refine ⟨he, ?_⟩
      have st8 := z8 (by rw [← he]; exact q)
      have G7 : Good S7 := by
        obtain ⟨v', hv', g1, g2, g3, g4⟩ := range_zero (show rangeS S6 15 x 1 = 0 by rw [← r7]; exact q)
        exact G6.set W6 hv' (by omega) hT st
      have W7 := W6.set st
      obtain ⟨j1, j2⟩ := set_info W7 st8
      obtain ⟨w15, hw15, iw15⟩ := info_find j1 hu15
      obtain ⟨w16, hw16, iw16⟩ := info_find j1 hu16
      refine ⟨w15, w16, hw15, hw16, dumpV_same rfl ?_ (fun y => ?_)⟩
      · rw [infoV_size iw15, infoV_size iw16, infoV_size iu15, infoV_size iu16]
      · have a1 := set_sec G7 W7 st8 15 y
        have a2 := set_sec G7 W7 st8 16 y
        have a3 := set_sec G6 W6 st 15 y
        have a4 := set_sec G6 W6 st 16 y
        rw [if_neg (by intro e; exact absurd e.1 (by decide))] at a1 a4
        rw [secI_some hw15, a3, secI_some f15'] at a1
        rw [secI_some hw16, a4, secI_some f16] at a2
        rw [a1, a2]
        by_cases r : y = x.toNat
        · rw [if_pos ⟨rfl, r⟩, if_pos ⟨rfl, r⟩]
        · rw [if_neg (fun h => r h.2), if_neg (fun h => r h.2)]
          rfl
    · have e := nz7 q
      rw [e] at h8
      obtain ⟨r8, z8, nz8⟩ := write_do hT f16 h8
      have he : e7 = e8 := by rw [r7, r8, hr]
      have e' := nz8 (by rw [← he]; exact q)
      rw [e']
      exact ⟨he, _, _, f15', f16, rfl⟩
/-- The last of those that have a number. -/
def pickD (S : MS) (id : Int) : List Vo → List UInt8 → List UInt8
  | [], acc => acc
  | v :: r, acc => pickD S id r (if v.id = id then dumpV S v else acc)
theorem pickD_snoc (S : MS) (id : Int) (v : Vo) : ∀ (l : List Vo) (acc : List UInt8), pickD S id (l ++ [v]) acc = if v.id = id then dumpV S v else pickD S id l acc
  | [], acc => rfl
  | u :: r, acc => by
    rw [List.cons_append, pickD, pickD_snoc S id v r]
    rfl
theorem pickD_no {S : MS} {id : Int} : ∀ {l : List Vo} {acc : List UInt8}, (∀ u ∈ l, u.id ≠ id) → pickD S id l acc = acc
  | [], acc, _ => rfl
  | u :: r, acc, h => by
    rw [pickD, if_neg (h u (by simp)), pickD_no (fun w hw => h w (by simp [hw]))]
theorem pickD_find {S : MS} {id : Int} {v : Vo} : ∀ {l : List Vo} {acc : List UInt8}, (l.Pairwise fun a b => a.id < b.id) → l.find? (fun u => decide (u.id = id)) = some v → pickD S id l acc = dumpV S v
  | [], acc, _, h => by simp at h
  | u :: r, acc, nd, h => by
    obtain ⟨n1, n2⟩ := List.pairwise_cons.1 nd
    rw [List.find?_cons] at h
    rw [pickD]
    by_cases q : u.id = id
    · rw [show decide (u.id = id) = true from decide_eq_true q] at h
      cases h
      rw [if_pos q, pickD_no (fun w hw e => by have := n1 w hw; omega)]
    · rw [show decide (u.id = id) = false from decide_eq_false q] at h
      rw [if_neg q]
      exact pickD_find n2 h
end Go.Proofs.YtlcepoagpocadaaGreatDoor
/- What the document fixes by number. -/
namespace Go.Proofs.YtlcepoagpocadaaGreatDoor
open Go Go.RowKit
theorem awake_law {S1 S2 S3 S5 S6 S7 : MS} {T5 T9 : List UInt8} {a b c d r s : Int} {d1 d2 d3 d5 d6 d7 : List UInt8} {t1 t2 t3 t5 t6 t7 : Bool} (l5 : T5.length = 16) (l9 : T9.length = 16)
    (h1 : DoR ⟨2, [], fun _ => []⟩ 0 [1, 2] [] a d1 t1 S1) (h2 : DoR S1 7 [1, 1] [T5] b d2 t2 S2) (h3 : DoR S2 2 [1, 2] [] c d3 t3 S3) (h5 : DoR S3 7 [2, 0] [T9] d d5 t5 S5)
    (h6 : DoR S5 6 [1, 0, 2] [] r d6 t6 S6) (h7 : DoR S6 12 [] [] s d7 t7 S7) :
    a = 0 ∧ b = 0 ∧ c = 0 ∧ wantS S3 7 [2, 0] [T9] = 1 ∧ d = 0 ∧ d6 = zero16 ++ T5 ∧ t7 = true ∧ S7 = S5 ∧ S6 = S5 ∧ countS S5 = 2 ∧ infoS S5 = [(1, 2, false, 0), (2, 2, false, 1)] := by
  unfold DoR at h1
  rw [if_neg (by decide)] at h1
  obtain ⟨b1, p1, e1⟩ : ∃ b1 p1, (a, S1) = createS ⟨2, [], fun _ => []⟩ 1 2 b1 p1 := h1.1
  have e1 : (a, S1) = (0, ⟨2, [⟨b1, p1, 1, 2, 0, false, []⟩], fun _ => []⟩) := e1
  cases e1
  obtain ⟨r2, z2, -⟩ := write_do (v := ⟨b1, p1, 1, 2, 0, false, []⟩) l5 rfl h2
  have r2 : b = 0 := r2
  obtain ⟨v, S1', k, hf, ho, e2⟩ := z2 r2
  have hf : some (⟨b1, p1, 1, 2, 0, false, []⟩ : Vo) = some v := hf
  cases hf
  dsimp only at ho
  rw [show (1 : Int).toNat / 2 = 0 by decide] at ho
  rcases ho with ⟨g, -, -⟩ | ⟨-, -, eS⟩
  · cases g
  obtain ⟨sec2, hs2, e2'⟩ : ∃ sec2 : Nat → List (List UInt8), sec2 k = [zero16, T5] ∧ S2 = ⟨2, [⟨b1, p1, 1, 2, 0, false, [(0, k)]⟩], sec2⟩ := by
    rw [e2, eS]
    refine ⟨_, ?_, rfl⟩
    dsimp only
    rw [upd_same, upd_same]
    rfl
  rw [e2'] at h3
  obtain ⟨z3, y3⟩ := snap_do h3
  have hc : c = 0 := y3 ⟨⟨b1, p1, 1, 2, 0, false, [(0, k)]⟩, rfl⟩ (by decide) (by decide) rfl
  unfold DoR at h3
  rw [if_neg (by decide)] at h3
  obtain ⟨b3, p3, e3⟩ : ∃ b3 p3, (c, S3) = snapS ⟨2, [⟨b1, p1, 1, 2, 0, false, [(0, k)]⟩], sec2⟩ 1 2 b3 p3 := h3.1
  have e3 : (c, S3) = (0, ⟨2, [⟨b1, p1, 1, 2, 0, false, [(0, k)]⟩, ⟨b3, p3, 2, 2, 1, false, [(0, k)]⟩], sec2⟩) := e3
  cases e3
  have hf5 : findV ⟨2, [⟨b1, p1, 1, 2, 0, false, [(0, k)]⟩, ⟨b3, p3, 2, 2, 1, false, [(0, k)]⟩], sec2⟩ 2 = some ⟨b3, p3, 2, 2, 1, false, [(0, k)]⟩ := rfl
  have hcnt : cnt [(⟨b1, p1, 1, 2, 0, false, [(0, k)]⟩ : Vo), ⟨b3, p3, 2, 2, 1, false, [(0, k)]⟩] k = 2 := by simp [cnt, cntL]
  obtain ⟨r5, z5, -⟩ := write_do l9 hf5 h5
  have r5 : d = 0 := r5
  obtain ⟨v, S4, k2, hf, ho, e5⟩ := z5 r5
  rw [hf5] at hf
  cases hf
  dsimp only at ho
  rw [show (0 : Int).toNat / 2 = 0 by decide] at ho
  rcases ho with ⟨g, g2, -⟩ | ⟨-, g2, eS5⟩
  · have g : some k = some k2 := g
    cases g
    rw [show cnt _ k = 2 from hcnt] at g2
    exact absurd g2 (by decide)
  have hne : k ≠ k2 := fun e => by
    rw [← e, show cnt _ k = 2 from hcnt] at g2
    exact absurd g2 (by decide)
  obtain ⟨sec5, hs5, e5'⟩ : ∃ sec5 : Nat → List (List UInt8), sec5 k = [zero16, T5] ∧ S5 = ⟨2, [⟨b1, p1, 1, 2, 0, false, [(0, k)]⟩, ⟨b3, p3, 2, 2, 1, false, [(0, k2)]⟩], sec5⟩ := by
    rw [e5, eS5]
    refine ⟨_, ?_, rfl⟩
    dsimp only
    rw [upd_ne _ _ hne, upd_ne _ _ hne]
    exact hs2
  have hw : wantS ⟨2, [⟨b1, p1, 1, 2, 0, false, [(0, k)]⟩, ⟨b3, p3, 2, 2, 1, false, [(0, k)]⟩], sec2⟩ 7 [2, 0] [T9] = 1 := by
    have hr : rangeS ⟨2, [⟨b1, p1, 1, 2, 0, false, [(0, k)]⟩, ⟨b3, p3, 2, 2, 1, false, [(0, k)]⟩], sec2⟩ 2 0 1 = 0 := rfl
    rw [want_one l9 hf5, if_pos hr]
    dsimp only
    rw [show rangeP 2 (0 : Int).toNat 1 = [0] by decide]
    have : needS ⟨2, [⟨b1, p1, 1, 2, 0, false, [(0, k)]⟩, ⟨b3, p3, 2, 2, 1, false, [(0, k)]⟩], sec2⟩ ⟨b3, p3, 2, 2, 1, false, [(0, k)]⟩ 0 = true := by
      show decide (1 < cnt _ k) = true
      rw [show cnt _ k = 2 from hcnt]; rfl
    rw [List.filter_cons, if_pos this]
    rfl
  unfold DoR at h6 h7
  rw [if_neg (by decide)] at h6 h7
  obtain ⟨q1, q2, q3, q4⟩ := h6
  obtain ⟨w1, w2, w3, w4⟩ := h7
  refine ⟨rfl, r2, rfl, hw, r5, ?_, w3, w4.trans q1, q1, ?_, ?_⟩
  · rw [e5'] at q4
    have q4 : d6 = readS ⟨2, [⟨b1, p1, 1, 2, 0, false, [(0, k)]⟩, ⟨b3, p3, 2, 2, 1, false, [(0, k2)]⟩], sec5⟩ ⟨b1, p1, 1, 2, 0, false, [(0, k)]⟩ 0 2 := q4
    have g0 : secS ⟨2, [⟨b1, p1, 1, 2, 0, false, [(0, k)]⟩, ⟨b3, p3, 2, 2, 1, false, [(0, k2)]⟩], sec5⟩ ⟨b1, p1, 1, 2, 0, false, [(0, k)]⟩ 0 = zero16 := by
      have e : ((0 / 2 : Nat) : Int) = 0 := by decide
      unfold secS
      dsimp only
      rw [e]
      show (sec5 k).getD (0 % 2) [] = zero16
      rw [hs5]; rfl
    have g1 : secS ⟨2, [⟨b1, p1, 1, 2, 0, false, [(0, k)]⟩, ⟨b3, p3, 2, 2, 1, false, [(0, k2)]⟩], sec5⟩ ⟨b1, p1, 1, 2, 0, false, [(0, k)]⟩ 1 = T5 := by
      have e : ((1 / 2 : Nat) : Int) = 0 := by decide
      unfold secS
      dsimp only
      rw [e]
      show (sec5 k).getD (1 % 2) [] = T5
      rw [hs5]; rfl
    rw [q4]
    unfold readS
    rw [show List.range 2 = [0, 1] from rfl, List.flatMap_cons, List.flatMap_cons, List.flatMap_nil, List.append_nil, Nat.zero_add, Nat.zero_add, g0, g1]
  · rw [e5']
    show (distinct [k, k2]).length = 2
    unfold distinct
    rw [if_neg (by simp [distinct, hne])]
    rfl
  · rw [e5']; rfl
end Go.Proofs.YtlcepoagpocadaaGreatDoor
