import Derived.Test.YtlcepoagpocadaaGreatDoorWtF
import Derived.Test.YtlcepoagpocadaaGreatDoorMfB
import Derived.Test.YtlcepoagpocadaaGreatDoorWtL
set_option linter.unusedSimpArgs false
set_option linter.unusedVariables false
set_option maxRecDepth 100000
/- A model with one volume, one sector a chunk. -/
namespace Go.Proofs.YtlcepoagpocadaaGreatDoor
open Go Go.RowKit
/-- One volume; a chunk has one sector; which sectors have a chunk, and what they are. -/
structure One (S : MS) (id size : Int) (val : Nat → Option (List UInt8)) : Prop where
  k : S.k = 1
  one : OneP S
  ex : ∃ v, S.vols = [v] ∧ v.id = id ∧ v.size = size ∧ v.fr = 0 ∧ v.pin = false ∧ ∀ y : Nat, match val y with
    | none => getL (y : Int) v.pl = none
    | some s => ∃ c, getL (y : Int) v.pl = some c ∧ S.sec c = [s]
section
variable {S T S1 : MS} {id size e : Int} {val : Nat → Option (List UInt8)} {f : Nat → Nat} {d : List UInt8} {t : Bool}
theorem One.iso (h : One S id size val) (I : Iso S T f) : One T id size val := by
  obtain ⟨hk, ho, v, hv, h1, h2, h3, h4, h5⟩ := h
  have hs := I.vols
  rw [hv] at hs
  obtain ⟨u, hu⟩ : ∃ u, T.vols = [u] := by
    cases hT : T.vols with
    | nil => rw [hT] at hs; simp at hs
    | cons u r =>
      cases r with
      | nil => exact ⟨u, rfl⟩
      | cons a b => rw [hT] at hs; simp at hs
  rw [hu] at hs
  have he : stripV u = renV f v := by simpa using hs
  obtain ⟨e1, e2, e3, e4, e5⟩ := strip_eq he
  have hvm : v ∈ S.vols := by rw [hv]; simp
  refine ⟨by rw [I.k, hk], fun a ha x hx b hb y hy q => ?_, u, hu, by rw [e1, h1], by rw [e2, h2], by rw [e3, h3], by rw [e4, h4], fun y => ?_⟩
  · rw [hu] at ha hb
    rw [List.mem_singleton.1 ha, e5] at hx
    rw [List.mem_singleton.1 hb, e5] at hy
    unfold renL at hx hy
    obtain ⟨x0, hx0, rfl⟩ := List.mem_map.1 hx
    obtain ⟨y0, hy0, rfl⟩ := List.mem_map.1 hy
    exact ho v hvm x0 hx0 v hvm y0 hy0 (I.inj _ _ (cnt_pos.2 ⟨v, hvm, x0, hx0, rfl⟩) (cnt_pos.2 ⟨v, hvm, y0, hy0, rfl⟩) q)
  · have := h5 y
    rw [e5]
    cases hy : val y with
    | none =>
      rw [hy] at this
      dsimp only at this ⊢
      rw [getL_ren, this]
      rfl
    | some s =>
      rw [hy] at this
      dsimp only at this ⊢
      obtain ⟨c, hc, hsc⟩ := this
      exact ⟨f c, by rw [getL_ren, hc]; rfl, by rw [I.sec c (cnt_pos.2 ⟨v, hvm, _, getL_mem hc, rfl⟩), hsc]⟩
theorem One.sector (h : One S id size val) {v : Vo} (hv : S.vols = [v]) (y : Nat) : secS S v y = (val y).getD zero16 := by
  obtain ⟨hk, ho, u, hu, h1, h2, h3, h4, h5⟩ := h
  rw [hu] at hv
  injection hv with hv _
  subst hv
  unfold secS
  rw [hk, Nat.div_one, Nat.mod_one]
  have := h5 y
  cases hy : val y with
  | none =>
    rw [hy] at this
    dsimp only at this
    rw [this]
    rfl
  | some s =>
    rw [hy] at this
    dsimp only at this
    obtain ⟨c, hc, hsc⟩ := this
    rw [hc]
    dsimp only
    rw [hsc]
    rfl
theorem One.dump (h : One S id size val) : dumpS S = [flat16 (fun y => (val y).getD zero16) size.toNat] := by
  have h' := h
  obtain ⟨hk, ho, u, hu, h1, h2, h3, h4, h5⟩ := h
  rw [dump_flat, hu]
  show [flat16 (secS S u) (u.size.toNat * S.k)] = _
  rw [hk, Nat.mul_one, h2, show secS S u = fun y => (val y).getD zero16 from funext (h'.sector hu)]
theorem One.info (h : One S id size val) : infoS S = [(id, size, false, 0)] := by
  obtain ⟨hk, ho, u, hu, h1, h2, h3, h4, h5⟩ := h
  unfold infoS
  rw [hu]
  show [infoV u] = _
  unfold infoV
  rw [h1, h2, h3, h4]
theorem One.fit (h : One S id size val) {x : List UInt8} (hl : x.length = size.toNat * 16) (hz : ∀ y, y < size.toNat → val y = none → (x.drop (y * 16)).take 16 = zero16) : FitD S [x] := by
  obtain ⟨hk, ho, u, hu, h1, h2, h3, h4, h5⟩ := h
  have hum : u ∈ S.vols := by rw [hu]; simp
  have hmem : ∀ z ∈ tellA S.k (S.vols.zip [x]), ∃ p, p < size.toNat ∧ z = (getL (p : Int) u.pl, [(x.drop (p * 16)).take 16]) := by
    intro z hzm
    rw [hu, hk] at hzm
    unfold tellA at hzm
    obtain ⟨q, hq, h6⟩ := List.mem_flatMap.1 hzm
    have hq : q = (u, x) := by simpa using hq
    subst hq
    unfold tellV at h6
    obtain ⟨p, hp, rfl⟩ := List.mem_map.1 h6
    have hp := List.mem_range.1 hp
    dsimp only at hp
    rw [h2] at hp
    refine ⟨p, hp, ?_⟩
    unfold toldL
    simp
  refine ⟨by rw [hu]; rfl, fun z hzm => ?_, ⟨fun s hs => ?_, fun c s s' a b => ?_⟩⟩
  · rw [hu] at hzm
    have hq : z = (u, x) := by simpa using hzm
    subst hq
    dsimp only
    rw [hk, h2, hl, Nat.mul_one]
  · obtain ⟨p, hp, e⟩ := hmem _ hs
    injection e with e1 e2
    subst e2
    have h6 := h5 p
    cases hy : val p with
    | none => simp [hz p hp hy]
    | some s =>
      rw [hy] at h6
      obtain ⟨c, hc, _⟩ := h6
      rw [hc] at e1
      cases e1
  · obtain ⟨p, hp, e⟩ := hmem _ a
    obtain ⟨q, hq, e'⟩ := hmem _ b
    injection e with e1 e2
    injection e' with e1' e2'
    have := ho u hum _ (getL_mem e1.symm) u hum _ (getL_mem e1'.symm) rfl
    have hpq : p = q := by
      have e3 : (p : Int) = q := this
      omega
    subst hpq
    rw [e2, e2']
theorem one_empty (hv : S.vols = []) (hk : S.k = 1) (hi : 1 ≤ id ∧ id ≤ 16) (hz : 0 ≤ size ∧ size ≤ 64) (h : DoR S 0 [id, size] [] e d t S1) : e = 0 ∧ d = [] ∧ t = false ∧ One S1 id size (fun _ => none) := by
  unfold DoR at h
  rw [if_neg (by decide)] at h
  obtain ⟨⟨b, pb, h1⟩, h2, h3⟩ := h
  unfold createS at h1
  rw [show ([id, size] : List Int).getD 0 0 = id from rfl, show ([id, size] : List Int).getD 1 0 = size from rfl, if_neg (by omega)] at h1
  have hf : findV S id = none := by unfold findV; rw [hv]; rfl
  rw [hf] at h1
  dsimp only at h1
  injection h1 with h4 h5
  refine ⟨h4, h2, h3, ?_⟩
  rw [h5, hv]
  exact ⟨hk, (fun v hv x hx => by
    have : v = ⟨b, pb, id, size, 0, false, []⟩ := by simpa [insV] using hv
    subst this
    cases hx), ⟨b, pb, id, size, 0, false, []⟩, rfl, rfl, rfl, rfl, rfl, fun y => rfl⟩
theorem One.find (h : One S id size val) : ∃ v, S.vols = [v] ∧ findV S id = some v ∧ v.size = size := by
  obtain ⟨hk, ho, u, hu, h1, h2, h3, h4, h5⟩ := h
  exact ⟨u, hu, by unfold findV; rw [hu]; simp [h1], h2⟩
theorem one_flush (h : DoR S 9 [] [] e d t S1) : e = 0 ∧ d = [] ∧ t = false ∧ S1 = S := by
  unfold DoR at h
  rw [if_neg (by decide)] at h
  exact h
theorem one_write (h : One S id size val) (W : Wf S) {s : List UInt8} (hs : s.length = 16) {x : Nat} (hx : (x : Int) < size) (hd : DoR S 7 [id, (x : Int)] [s] e d t S1) :
    e = 0 ∧ d = [] ∧ t = false ∧ One S1 id size (upd val x (some s)) := by
  have hO := one_do W h.one hd
  obtain ⟨v0, hv0, hf, hsz⟩ := h.find
  obtain ⟨r1, r2, -⟩ := write_do hs hf hd
  obtain ⟨hk, ho, v, hv, h1, h2, h3, h4, h5⟩ := h
  rw [hv] at hv0
  injection hv0 with hv0 _
  subst hv0
  have he : e = 0 := by
    rw [r1]
    unfold rangeS
    rw [hf, hk]
    dsimp only
    rw [if_neg (by omega), if_neg (by omega)]
  have hdt : d = [] ∧ t = false := by
    unfold DoR at hd
    rw [if_neg (by simp [hs])] at hd
    exact ⟨hd.1, hd.2.1⟩
  refine ⟨he, hdt.1, hdt.2, ?_⟩
  obtain ⟨v', S0, c, hf', hown, hS⟩ := r2 he
  rw [hf] at hf'
  injection hf' with hf'
  subst hf'
  rw [hk, show ((x : Int).toNat) = x by simp, Nat.div_one] at hown
  rw [show ((x : Int).toNat) = x by simp, hk, Nat.mod_one] at hS
  have hvm : v ∈ S.vols := by rw [hv]; simp
  rcases hown with ⟨g1, g2, rfl⟩ | ⟨g1, g2, g3⟩
  · have hsc : (S0.sec c).length = 1 := by
      have := h5 x
      cases hy : val x with
      | none => rw [hy] at this; dsimp only at this; rw [g1] at this; cases this
      | some s0 =>
        rw [hy] at this
        obtain ⟨c', hc', hs'⟩ := this
        rw [g1] at hc'
        injection hc' with hc'
        rw [hc', hs']
        rfl
    refine ⟨by rw [hS]; exact hk, hO, v, by rw [hS]; exact hv, h1, h2, h3, h4, fun y => ?_⟩
    by_cases q : y = x
    · subst q
      rw [upd_same]
      refine ⟨c, g1, ?_⟩
      rw [hS]
      show upd S0.sec c ((S0.sec c).set 0 s) c = _
      rw [upd_same]
      match hm : S0.sec c, hsc with
      | [a], _ => rfl
    · rw [upd_ne _ _ q]
      have := h5 y
      cases hy : val y with
      | none => rw [hy] at this; exact this
      | some s0 =>
        rw [hy] at this
        obtain ⟨c', hc', hs'⟩ := this
        refine ⟨c', hc', ?_⟩
        rw [hS]
        show upd S0.sec c ((S0.sec c).set 0 s) c' = _
        have hne : c' ≠ c := fun e => q (by
          have e3 : (y : Int) = x := ho v hvm _ (getL_mem hc') v hvm _ (getL_mem g1) e
          omega)
        rw [upd_ne _ _ hne]
        exact hs'
  · have hr : repV { v with pl := putL (x : Int) c v.pl } S.vols = [{ v with pl := putL (x : Int) c v.pl }] := by
      rw [hv]
      unfold repV
      simp
    refine ⟨by rw [hS, g3]; exact hk, hO, { v with pl := putL (x : Int) c v.pl }, by rw [hS, g3]; exact hr, h1, h2, h3, h4, fun y => ?_⟩
    dsimp only
    by_cases q : y = x
    · subst q
      rw [upd_same]
      refine ⟨c, by rw [getL_put, if_pos rfl], ?_⟩
      rw [hS, g3]
      show upd (upd S.sec c _) c ((upd S.sec c _ c).set 0 s) c = _
      rw [upd_same, upd_same, hk]
      rfl
    · rw [upd_ne _ _ q, getL_put, if_neg (by omega)]
      have := h5 y
      cases hy : val y with
      | none => rw [hy] at this; exact this
      | some s0 =>
        rw [hy] at this
        obtain ⟨c', hc', hs'⟩ := this
        refine ⟨c', hc', ?_⟩
        rw [hS, g3]
        show upd (upd S.sec c _) c ((upd S.sec c _ c).set 0 s) c' = _
        have hne : c' ≠ c := fun e => by
          have := cnt_pos.2 ⟨v, hvm, _, getL_mem hc', rfl⟩
          dsimp only at this
          rw [e, g2] at this
          omega
        rw [upd_ne _ _ hne, upd_ne _ _ hne]
        exact hs'
theorem one_discard (h : One S id size val) (W : Wf S) {x : Nat} (hx : (x : Int) < size) (hd : DoR S 8 [id, (x : Int), 1] [] e d t S1) :
    e = 0 ∧ d = [] ∧ t = false ∧ One S1 id size (upd val x none) := by
  have hO := one_do W h.one hd
  obtain ⟨v0, hv0, hf, hsz⟩ := h.find
  obtain ⟨hk, ho, v, hv, h1, h2, h3, h4, h5⟩ := h
  rw [hv] at hv0
  injection hv0 with hv0 _
  subst hv0
  unfold DoR at hd
  rw [if_neg (by decide)] at hd
  obtain ⟨d1, d2, d3, d4⟩ := hd
  rw [show ([id, (x : Int), 1] : List Int).getD 0 0 = id from rfl, show ([id, (x : Int), 1] : List Int).getD 1 0 = x from rfl, show ([id, (x : Int), 1] : List Int).getD 2 0 = 1 from rfl] at d3 d4
  have he : rangeS S id (x : Int) 1 = 0 := by
    unfold rangeS
    rw [hf, hk]
    dsimp only
    rw [if_neg (by omega), if_neg (by omega)]
  rw [if_pos he] at d4
  refine ⟨by rw [d3, he], d1, d2, ?_⟩
  obtain ⟨S0, e0, v', hf', hm⟩ : ∃ S0, S0 = S ∧ DisS S0 id x 1 (x + 0) S1 := d4
  subst e0
  rw [hf] at hf'
  injection hf' with hf'
  subst hf'
  rw [hk, Nat.div_one, Nat.add_zero] at hm
  cases hg : getL (x : Int) v.pl with
  | none =>
    rw [hg] at hm
    have hm : S1 = S0 := hm
    subst hm
    refine ⟨hk, ho, v, hv, h1, h2, h3, h4, fun y => ?_⟩
    by_cases q : y = x
    · subst q; rw [upd_same]; exact hg
    · rw [upd_ne _ _ q]; exact h5 y
  | some c =>
    rw [hg] at hm
    dsimp only at hm
    rw [if_pos (by unfold wholeS; simp)] at hm
    have hr : repV { v with pl := delL (x : Int) v.pl } S0.vols = [{ v with pl := delL (x : Int) v.pl }] := by
      rw [hv]
      unfold repV
      simp
    refine ⟨by rw [hm]; exact hk, hO, { v with pl := delL (x : Int) v.pl }, by rw [hm]; exact hr, h1, h2, h3, h4, fun y => ?_⟩
    dsimp only
    by_cases q : y = x
    · subst q; rw [upd_same]; exact (getL_del _).trans (if_pos rfl)
    · rw [upd_ne _ _ q, getL_del, if_neg (by omega)]
      have := h5 y
      cases hy : val y with
      | none => rw [hy] at this; exact this
      | some s0 =>
        rw [hy] at this
        obtain ⟨c', hc', hs'⟩ := this
        exact ⟨c', hc', by rw [hm]; exact hs'⟩
end
end Go.Proofs.YtlcepoagpocadaaGreatDoor
set_option maxRecDepth 100000
/- What goes on, in plain words. -/
namespace Go.Proofs.YtlcepoagpocadaaGreatDoor
open Go Go.RowKit
/-- An order that is answered with nothing. -/
def evZ (o : OW) (gen : Int) : Ev := ⟨o, 0, [], [], gen, []⟩
section
variable {s u : WS} {id size : Int} {val : Nat → Option (List UInt8)} {o : OW} {gen : Int}
theorem go_zero (hk : o.k ≠ 14) (hg : gen = s.gen ∨ gen = s.gen + 1)
    (hs : ∀ N er d t S' f, Iso s.now N f → Good N → Wf N → DoR N o.k o.ns o.ts er d t S' → er = 0 ∧ d = [] ∧ t = false ∧ One S' id size val) :
    ¬ GoR s (evZ o gen) none ∧ ∀ u, GoR s (evZ o gen) (some u) → One u.now id size val ∧ u.gen = gen ∧ ((gen = s.gen ∧ u.past = s.past ∧ u.since = s.since ++ [o]) ∨ (gen ≠ s.gen ∧ (∃ f, Iso s.now u.past f) ∧ u.since = [o])) := by
  refine ⟨fun h => ?_, fun u h => ?_⟩
  · rcases h with ⟨q, _⟩ | ⟨_, ⟨q, _⟩ | ⟨_, N, f, er, d, t, S', hI, hG, hW, hD, h⟩⟩
    · exact hk q
    · exact q hg
    · obtain ⟨e1, e2, e3, _⟩ := hs N er d t S' f hI hG hW hD
      subst e1; subst e2; subst e3
      rcases h with ⟨q, _⟩ | ⟨_, ⟨_, q⟩ | ⟨_, Q, f2, _, q⟩⟩
      · exact q ⟨rfl, rfl, rfl, rfl⟩
      · cases q
      · cases q
  · rcases h with ⟨q, _⟩ | ⟨_, ⟨_, q⟩ | ⟨_, N, f, er, d, t, S', hI, hG, hW, hD, h⟩⟩
    · exact absurd q hk
    · cases q
    · obtain ⟨_, _, _, hO⟩ := hs N er d t S' f hI hG hW hD
      rcases h with ⟨_, q⟩ | ⟨_, ⟨e, q⟩ | ⟨e, Q, f2, hQ, q⟩⟩
      · cases q
      · cases q
        exact ⟨hO, rfl, .inl ⟨e, rfl, rfl⟩⟩
      · cases q
        exact ⟨hO, rfl, .inr ⟨e, ⟨f2, hQ⟩, rfl⟩⟩
theorem go_create (he : s.now.vols = []) (hk : s.now.k = 1) (hi : 1 ≤ id ∧ id ≤ 16) (hz : 0 ≤ size ∧ size ≤ 64) (hg : gen = s.gen ∨ gen = s.gen + 1) :
    ¬ GoR s (evZ ⟨0, [id, size], []⟩ gen) none ∧ ∀ u, GoR s (evZ ⟨0, [id, size], []⟩ gen) (some u) → One u.now id size (fun _ => none) ∧ u.gen = gen ∧ ((gen = s.gen ∧ u.past = s.past ∧ u.since = s.since ++ [⟨0, [id, size], []⟩]) ∨ (gen ≠ s.gen ∧ (∃ f, Iso s.now u.past f) ∧ u.since = [⟨0, [id, size], []⟩])) :=
  go_zero (by show (0 : Nat) ≠ 14; decide) hg fun N er d t S' f hI hG hW hD => one_empty (by
    have := hI.vols
    rw [he] at this
    simpa using this) (by rw [hI.k, hk]) hi hz hD
theorem go_flush (h : One s.now id size val) (hg : gen = s.gen ∨ gen = s.gen + 1) :
    ¬ GoR s (evZ ⟨9, [], []⟩ gen) none ∧ ∀ u, GoR s (evZ ⟨9, [], []⟩ gen) (some u) → One u.now id size val ∧ u.gen = gen ∧ ((gen = s.gen ∧ u.past = s.past ∧ u.since = s.since ++ [⟨9, [], []⟩]) ∨ (gen ≠ s.gen ∧ (∃ f, Iso s.now u.past f) ∧ u.since = [⟨9, [], []⟩])) :=
  go_zero (by decide) hg fun N er d t S' f hI hG hW hD => by
    obtain ⟨h1, h2, h3, h4⟩ := one_flush hD
    exact ⟨h1, h2, h3, by rw [h4]; exact h.iso hI⟩
theorem go_write (h : One s.now id size val) {x : Nat} (hx : (x : Int) < size) {t : List UInt8} (ht : t.length = 16) (hg : gen = s.gen ∨ gen = s.gen + 1) :
    ¬ GoR s (evZ ⟨7, [id, (x : Int)], [t]⟩ gen) none ∧ ∀ u, GoR s (evZ ⟨7, [id, (x : Int)], [t]⟩ gen) (some u) → One u.now id size (upd val x (some t)) ∧ u.gen = gen ∧ ((gen = s.gen ∧ u.past = s.past ∧ u.since = s.since ++ [⟨7, [id, (x : Int)], [t]⟩]) ∨ (gen ≠ s.gen ∧ (∃ f, Iso s.now u.past f) ∧ u.since = [⟨7, [id, (x : Int)], [t]⟩])) :=
  go_zero (by show (7 : Nat) ≠ 14; decide) hg fun N er d t S' f hI hG hW hD => one_write (h.iso hI) hW ht hx hD
theorem go_discard (h : One s.now id size val) {x : Nat} (hx : (x : Int) < size) (hg : gen = s.gen ∨ gen = s.gen + 1) :
    ¬ GoR s (evZ ⟨8, [id, (x : Int), 1], []⟩ gen) none ∧ ∀ u, GoR s (evZ ⟨8, [id, (x : Int), 1], []⟩ gen) (some u) → One u.now id size (upd val x none) ∧ u.gen = gen ∧ ((gen = s.gen ∧ u.past = s.past ∧ u.since = s.since ++ [⟨8, [id, (x : Int), 1], []⟩]) ∨ (gen ≠ s.gen ∧ (∃ f, Iso s.now u.past f) ∧ u.since = [⟨8, [id, (x : Int), 1], []⟩])) :=
  go_zero (by show (8 : Nat) ≠ 14; decide) hg fun N er d t S' f hI hG hW hD => one_discard (h.iso hI) hW hx hD
/-- A loss of power. -/
def evK (vols : List Vo) (gen : Int) (x : List UInt8) : Ev := ⟨⟨14, [], [[], [], []]⟩, 0, [], vols, gen, [x]⟩
theorem crash_yes {pv : Nat → Option (List UInt8)} (h : One s.past id size pv) {vols : List Vo} (hv : vols.map infoV = [(id, size, false, 0)]) {x : List UInt8} (hl : x.length = size.toNat * 16)
    (hz : ∀ y, y < size.toNat → pv y = none → (x.drop (y * 16)).take 16 = zero16) (hs : soundL id (flat16 (fun y => (pv y).getD zero16) size.toNat) x s.since = true) :
    ¬ GoR s (evK vols s.gen x) none ∧ ∀ u, GoR s (evK vols s.gen x) (some u) → dumpS u.now = [x] ∧ infoS u.now = [(id, size, false, 0)] := by
  have hok : CrashOk s (evK vols s.gen x) := by
    refine ⟨rfl, rfl, rfl, ?_, ?_, fun i v p d h1 h2 h3 => ?_⟩
    · exact hv.trans h.info.symm
    · obtain ⟨v, hv', _⟩ := h.find
      rw [hv']; rfl
    · rw [h.dump] at h2
      have h3 : [x][i]? = some d := h3
      have hi : i = 0 := by
        rcases Nat.eq_zero_or_pos i with q | q
        · exact q
        · rw [List.getElem?_eq_none (by show 1 ≤ i; omega)] at h3; cases h3
      subst hi
      have e2 : flat16 (fun y => (pv y).getD zero16) size.toNat = p := by simpa using h2
      have e3 : x = d := by simpa using h3
      have e1 : v.id = id := by
        have : (vols.map infoV)[0]? = some (infoV v) := by rw [List.getElem?_map]; show Option.map infoV vols[0]? = _; rw [show vols[0]? = some v from h1]; rfl
        rw [hv] at this
        have : (id, size, false, (0 : Int)) = infoV v := by simpa using this
        unfold infoV at this
        injection this with q _
        exact q.symm
      rw [e1, ← e2, ← e3]
      exact hs
  refine ⟨fun g => ?_, fun u g => ?_⟩
  · rcases g with ⟨_, ⟨q, _⟩ | ⟨_, C, f, hI, hG, hW, ⟨q, _⟩ | ⟨_, sec, Q, f2, _, _, q⟩⟩⟩ | ⟨q, _⟩
    · exact q hok
    · exact q ((h.iso hI).fit hl hz)
    · cases q
    · exact absurd rfl q
  · rcases g with ⟨_, ⟨_, q⟩ | ⟨_, C, f, hI, hG, hW, ⟨_, q⟩ | ⟨hf, sec, Q, f2, ht, _, q⟩⟩⟩ | ⟨q, _⟩
    · cases q
    · cases q
    · cases q
      exact ⟨dump_told hG hf ht, (h.iso hI).info⟩
    · exact absurd rfl q
theorem crash_no {ev : Ev} (hk : ev.o.k = 14) (h : ¬ CrashOk s ev) : ¬ GoR s ev (some u) := fun g => by
  rcases g with ⟨_, ⟨_, q⟩ | ⟨q, _⟩⟩ | ⟨q, _⟩
  · cases q
  · exact h q
  · exact q hk
theorem RunR.split {l : List Ev} {e : Ev} : ∀ {s t : WS}, RunR s (l ++ [e]) t → ∃ u, RunR s l u ∧ GoR u e (some t) := by
  induction l with
  | nil =>
    intro s t ⟨u, g, h⟩
    obtain rfl : t = u := h
    exact ⟨s, rfl, g⟩
  | cons a l ih =>
    intro s t ⟨v, g, h⟩
    obtain ⟨u, h1, h2⟩ := ih h
    exact ⟨u, ⟨v, g, h1⟩, h2⟩
end
end Go.Proofs.YtlcepoagpocadaaGreatDoor
set_option maxRecDepth 100000
/- The document's examples, in plain words. -/
namespace Go.Proofs.YtlcepoagpocadaaGreatDoor
open Go Go.RowKit
def secT (b : UInt8) : List UInt8 := List.replicate 16 b
theorem secT_len (b : UInt8) : (secT b).length = 16 := by unfold secT; simp
theorem j64s {l : List Int} (h : (l.all fun n => decide (-9223372036854775808 ≤ n) && decide (n ≤ 9223372036854775807)) = true) : ∀ n ∈ l, J64 n := fun n hn => by
  have := List.all_eq_true.1 h n hn
  simp only [Bool.and_eq_true, decide_eq_true_eq] at this
  exact this
def aw1 : Ev := evZ ⟨0, [1, 1], []⟩ 1
def aw2 : Ev := evZ ⟨9, [], []⟩ 2
def aw3 : Ev := evZ ⟨7, [1, ((0 : Nat) : Int)], [secT 5]⟩ 2
def awV : List Vo := [⟨0, 0, 1, 1, 0, false, []⟩]
def awR : Ev := evZ ⟨6, [1, 0, 1], []⟩ 2
section
variable {P : MS} {f : Nat → Nat} {t : WS}
theorem aw_run1 (hP : Iso (emptyS 1) P f) : ¬ GoR ⟨emptyS 1, P, 1, []⟩ aw1 none ∧ ∀ u, GoR ⟨emptyS 1, P, 1, []⟩ aw1 (some u) → One u.now 1 1 (fun _ => none) ∧ u.gen = 1 := by
  obtain ⟨h1, h2⟩ := go_create (s := ⟨emptyS 1, P, 1, []⟩) (id := 1) (size := 1) (gen := 1) rfl rfl (by decide) (by decide) (.inl rfl)
  exact ⟨h1, fun u hu => ⟨(h2 u hu).1, (h2 u hu).2.1⟩⟩
theorem aw_run2 (h : One t.now 1 1 (fun _ => none)) (hg : t.gen = 1) : ¬ GoR t aw2 none ∧ ∀ u, GoR t aw2 (some u) → One u.now 1 1 (fun _ => none) ∧ u.gen = 2 ∧ One u.past 1 1 (fun _ => none) ∧ u.since = [⟨9, [], []⟩] := by
  obtain ⟨h1, h2⟩ := go_flush (gen := 2) h (.inr (by rw [hg]; rfl))
  refine ⟨h1, fun u hu => ?_⟩
  obtain ⟨a, b, c⟩ := h2 u hu
  rcases c with ⟨c, _⟩ | ⟨_, ⟨f, hI⟩, c⟩
  · rw [hg] at c; cases c
  · exact ⟨a, b, h.iso hI, c⟩
theorem aw_run3 (h : One t.now 1 1 (fun _ => none)) (hg : t.gen = 2) (hp : One t.past 1 1 (fun _ => none)) (hs : t.since = [⟨9, [], []⟩]) :
    ¬ GoR t aw3 none ∧ ∀ u, GoR t aw3 (some u) → One u.now 1 1 (upd (fun _ => none) 0 (some (secT 5))) ∧ u.gen = 2 ∧ One u.past 1 1 (fun _ => none) ∧ u.since = [⟨9, [], []⟩, ⟨7, [1, ((0 : Nat) : Int)], [secT 5]⟩] := by
  obtain ⟨h1, h2⟩ := go_write (gen := 2) h (x := 0) (by decide) (secT_len 5) (.inl hg.symm)
  refine ⟨h1, fun u hu => ?_⟩
  obtain ⟨a, b, c⟩ := h2 u hu
  rcases c with ⟨_, c1, c2⟩ | ⟨c, _⟩
  · exact ⟨a, b, by rw [c1]; exact hp, by rw [c2, hs]; rfl⟩
  · exact absurd hg.symm c
/-- What stands behind the three first events. -/
structure Aw3 (t : WS) : Prop where
  now : One t.now 1 1 (upd (fun _ => none) 0 (some (secT 5)))
  gen : t.gen = 2
  past : One t.past 1 1 (fun _ => none)
  since : t.since = [⟨9, [], []⟩, ⟨7, [1, ((0 : Nat) : Int)], [secT 5]⟩]
theorem aw_take (hP : Iso (emptyS 1) P f) {e : Ev} {j : Nat} {ev : Ev} (hr : RunR ⟨emptyS 1, P, 1, []⟩ (([aw1, aw2, aw3, e] : List Ev).take j) t) (hj : ([aw1, aw2, aw3, e] : List Ev)[j]? = some ev) :
    (j = 3 ∧ ev = e ∧ Aw3 t) ∨ (j < 3 ∧ ¬ GoR t ev none ∧ (ev = aw1 ∨ ev = aw2 ∨ ev = aw3)) := by
  rcases j with _ | _ | _ | _ | j
  · obtain rfl : t = ⟨emptyS 1, P, 1, []⟩ := hr
    have e1 : aw1 = ev := by simpa using hj
    subst e1
    exact .inr ⟨by omega, (aw_run1 hP).1, .inl rfl⟩
  · obtain ⟨u1, g1, h1⟩ := hr
    obtain rfl : t = u1 := h1
    have e1 : aw2 = ev := by simpa using hj
    subst e1
    obtain ⟨a, b⟩ := (aw_run1 hP).2 _ g1
    exact .inr ⟨by omega, (aw_run2 a b).1, .inr (.inl rfl)⟩
  · obtain ⟨u1, g1, u2, g2, h1⟩ := hr
    obtain rfl : t = u2 := h1
    have e1 : aw3 = ev := by simpa using hj
    subst e1
    obtain ⟨a, b⟩ := (aw_run1 hP).2 _ g1
    obtain ⟨a, b, c, d⟩ := (aw_run2 a b).2 _ g2
    exact .inr ⟨by omega, (aw_run3 a b c d).1, .inr (.inr rfl)⟩
  · obtain ⟨u1, g1, u2, g2, u3, g3, h1⟩ := hr
    obtain rfl : t = u3 := h1
    have e1 : e = ev := by simpa using hj
    obtain ⟨a, b⟩ := (aw_run1 hP).2 _ g1
    obtain ⟨a, b, c, d⟩ := (aw_run2 a b).2 _ g2
    obtain ⟨a, b, c, d⟩ := (aw_run3 a b c d).2 _ g3
    exact .inl ⟨rfl, e1.symm, a, b, c, d⟩
  · rw [List.getElem?_eq_none (by simp)] at hj
    cases hj
theorem aw_full (hP : Iso (emptyS 1) P f) {e : Ev} (hr : RunR ⟨emptyS 1, P, 1, []⟩ [aw1, aw2, aw3, e] t) : ∃ u, Aw3 u ∧ GoR u e (some t) := by
  obtain ⟨u, h1, h2⟩ := RunR.split (l := [aw1, aw2, aw3]) hr
  have h3 := aw_take hP (e := e) (j := 3) (ev := e) (t := u) h1 rfl
  rcases h3 with ⟨_, _, h3⟩ | ⟨h3, _⟩
  · exact ⟨u, h3, h2⟩
  · omega
theorem flat_one (g : Nat → List UInt8) : flat16 g 1 = g 0 := by unfold flat16; simp
/-- Zeros go on. -/
theorem aw_a (h : Aw3 t) : ¬ GoR t (evK awV 2 (secT 0)) none ∧ ∀ u, GoR t (evK awV 2 (secT 0)) (some u) → infoS u.now = [(1, 1, false, 0)] := by
  have hk := crash_yes (s := t) h.past (vols := awV) rfl (x := secT 0) (by decide) (fun y hy _ => by
    obtain rfl : y = 0 := by
      have : y < 1 := hy
      omega
    rfl) (by
    show soundL 1 (flat16 (fun y => ((fun _ => none : Nat → Option (List UInt8)) y).getD zero16) 1) (secT 0) t.since = true
    rw [flat_one]
    unfold soundL
    show (decide (zero16.length = (secT 0).length) && _) = true
    rw [show decide (zero16.length = (secT 0).length) = true from rfl, Bool.true_and, List.all_eq_true]
    intro i hi
    have hi : i < 1 := List.mem_range.1 hi
    obtain rfl : i = 0 := by omega
    unfold okAt
    exact (Bool.or_eq_true _ _).mpr (.inl rfl))
  rw [h.gen] at hk
  exact ⟨hk.1, fun u hu => (hk.2 u hu).2⟩
/-- Another sector does not. -/
theorem aw_b {u : WS} (h : Aw3 t) : ¬ GoR t (evK awV 2 (secT 6)) (some u) := crash_no rfl fun q => by
  have h1 := q.ok 0 ⟨0, 0, 1, 1, 0, false, []⟩ zero16 (secT 6) rfl (by rw [h.past.dump]; rfl) rfl
  rw [h.since] at h1
  exact absurd h1 (by decide)
/-- Another answer does not. -/
theorem aw_c {u : WS} (h : Aw3 t) : ¬ GoR t awR (some u) := fun g => by
  rcases g with ⟨q, _⟩ | ⟨_, ⟨_, q⟩ | ⟨_, N, f, er, d, tl, S', hI, hG, hW, hD, q⟩⟩
  · cases q
  · cases q
  · rcases q with ⟨_, q⟩ | ⟨q, _⟩
    · cases q
    · have hN := h.now.iso hI
      obtain ⟨v, hv, hf, hz⟩ := hN.find
      unfold DoR at hD
      rw [if_neg (by decide)] at hD
      obtain ⟨_, _, h3, h4⟩ := hD
      have hR : rangeS N 1 0 1 = 0 := by
        unfold rangeS
        rw [hf, hN.k]
        dsimp only
        rw [hz]
        decide
      have h4 : d = (match findV N 1 with | some v => if rangeS N 1 0 1 = 0 then readS N v 0 1 else [] | none => []) := h4
      rw [hf] at h4
      dsimp only at h4
      rw [if_pos hR] at h4
      have h5 : readS N v 0 1 = secT 5 := by
        unfold readS
        simp only [List.range_one, List.flatMap_cons, List.flatMap_nil, List.append_nil]
        rw [hN.sector hv]
        rfl
      rw [h5] at h4
      have h6 : d = [] := q.2.1
      rw [h6] at h4
      cases h4
theorem aw_ok {e : Ev} (he : e = aw1 ∨ e = aw2 ∨ e = aw3 ∨ e = awR) (s : WS) : EvOk s e := by
  rcases he with rfl | rfl | rfl | rfl
  · exact ⟨⟨by decide, rfl, rfl, j64s (by decide)⟩, rfl, by decide, by decide, by decide, by decide, (by intro t ht; cases ht), (by intro h; cases h), fun _ => by decide⟩
  · exact ⟨⟨by decide, rfl, rfl, by intro n hn; cases hn⟩, rfl, by decide, by decide, by decide, by decide, (by intro t ht; cases ht), (by intro h; cases h), fun _ => by decide⟩
  · exact ⟨⟨by decide, rfl, rfl, j64s (by decide)⟩, rfl, by decide, by decide, by decide, by decide, (by intro t ht; cases ht), (by intro h; cases h), fun _ => by decide⟩
  · exact ⟨⟨by decide, rfl, rfl, j64s (by decide)⟩, rfl, by decide, by decide, by decide, by decide, (by intro t ht; cases ht), (by intro h; cases h), fun _ => by decide⟩
theorem aw_okK {x : List UInt8} (hx : x.length ≤ 1000000) (h : Aw3 t) : EvOk t (evK awV 2 x) :=
  ⟨⟨by show (14 : Nat) < 15; decide, rfl, rfl, by intro n hn; cases hn⟩, rfl, by show (0 : Int) ≤ 2; decide, by show (2 : Int) ≤ 1000; decide, by show 1 ≤ 100000; decide, by show 1 ≤ 100000; decide, (by intro t ht; rw [List.mem_singleton.1 ht]; exact hx), (by intro _ q; rw [h.gen] at q; cases q), fun q => absurd rfl q⟩
end
end Go.Proofs.YtlcepoagpocadaaGreatDoor
