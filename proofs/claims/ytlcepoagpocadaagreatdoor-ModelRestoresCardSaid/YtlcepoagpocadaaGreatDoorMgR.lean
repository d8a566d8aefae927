import Derived.Test.YtlcepoagpocadaaGreatDoorMgQ
set_option linter.unusedSimpArgs false
set_option linter.unusedVariables false
/- A chunk's places: one alone, or another one. -/
namespace Go.Proofs.YtlcepoagpocadaaGreatDoor
open Go Go.RowKit
theorem one_place {S : MS} (W : Wf S) {v u : Vo} (hv : v ∈ S.vols) (hu : u ∈ S.vols) {p q : Int} {c : Nat} (hp : getL p v.pl = some c) (hq : getL q u.pl = some c) (h1 : cnt S.vols c = 1) : u = v ∧ q = p := by
  have hr := cnt_rem c W.nd hv
  have hd := cntL_del (p := p) c (W.rise v hv)
  rw [if_pos hp] at hd
  have hid : u = v := by
    by_cases e : u.id = v.id
    · exact pw_ne W.nd hu hv e
    · have : 0 < cnt (remV v.id S.vols) c := cnt_pos.2 ⟨u, by unfold remV; simp [hu, e], _, getL_mem hq, rfl⟩
      omega
  subst hid
  refine ⟨rfl, ?_⟩
  by_cases e : q = p
  · exact e
  · have : 0 < cntL c (delL p u.pl) := cntL_pos.2 ⟨(q, c), mem_delL.2 ⟨getL_mem hq, e⟩, rfl⟩
    omega
theorem two_places {S : MS} (W : Wf S) {v : Vo} (hv : v ∈ S.vols) {p : Int} {c : Nat} (hp : getL p v.pl = some c) (h2 : 1 < cnt S.vols c) : ∃ u ∈ S.vols, ∃ q, getL q u.pl = some c ∧ (u.id ≠ v.id ∨ q ≠ p) := by
  have hr := cnt_rem c W.nd hv
  have hd := cntL_del (p := p) c (W.rise v hv)
  rw [if_pos hp] at hd
  by_cases q0 : 0 < cntL c (delL p v.pl)
  · obtain ⟨x, hx, e⟩ := cntL_pos.1 q0
    obtain ⟨h3, h4⟩ := mem_delL.1 hx
    exact ⟨v, hv, x.1, by rw [(W.rise v hv).get h3, e], .inr h4⟩
  · obtain ⟨u, hu, x, hx, e⟩ := cnt_pos.1 (show 0 < cnt (remV v.id S.vols) c by omega)
    unfold remV at hu
    obtain ⟨h3, h4⟩ := List.mem_filter.1 hu
    refine ⟨u, h3, x.1, by rw [(W.rise u h3).get hx, e], .inl ?_⟩
    simpa using h4
/-- A volume's sectors with one of a volume another one. -/
def setF (S : MS) (v0 : Vo) (x : Nat) (s : List UInt8) (v : Vo) : Nat → List UInt8 := if v.id = v0.id then upd (secS S v) x s else secS S v
def dumpX (S : MS) (v0 : Vo) (x : Nat) (s : List UInt8) : List (List UInt8) := S.vols.map fun v => flat16 (setF S v0 x s v) (v.size.toNat * S.k)
def tellX (S : MS) (v0 : Vo) (x : Nat) (s : List UInt8) (v : Vo) (p : Nat) : List (List UInt8) := (List.range S.k).map fun i => setF S v0 x s v (p * S.k + i)
section
variable {S : MS} {v0 v : Vo} {x p : Nat} {s : List UInt8}
theorem setF_len (G : Good S) (hv : v ∈ S.vols) (hs : s.length = 16) (i : Nat) : (setF S v0 x s v i).length = 16 := by
  unfold setF
  split
  · by_cases q : i = x
    · rw [q, upd_same]; exact hs
    · rw [upd_ne _ _ q]; exact secS_16 G hv i
  · exact secS_16 G hv i
theorem tellX_mem (G : Good S) (hs : s.length = 16) {y : Pr} (hy : y ∈ tellA S.k (S.vols.zip (dumpX S v0 x s))) : ∃ v ∈ S.vols, ∃ p, p < v.size.toNat ∧ y = (getL (p : Int) v.pl, tellX S v0 x s v p) :=
  tell_map (fun v hv i _ => setF_len G hv hs i) hy
theorem mem_tellX (G : Good S) (hs : s.length = 16) (hv : v ∈ S.vols) (hp : p < v.size.toNat) : (getL (p : Int) v.pl, tellX S v0 x s v p) ∈ tellA S.k (S.vols.zip (dumpX S v0 x s)) := by
  obtain ⟨i, hi⟩ := List.mem_iff_getElem?.1 hv
  have hz : (S.vols.zip (dumpX S v0 x s))[i]? = some (v, flat16 (setF S v0 x s v) (v.size.toNat * S.k)) := by
    rw [List.getElem?_zip_eq_some]
    refine ⟨hi, ?_⟩
    unfold dumpX
    rw [List.getElem?_map, hi]
    rfl
  have := tellA_mem (k := S.k) hz hp
  dsimp only at this
  rw [told_flat (fun i _ => setF_len G hv hs i) hp] at this
  exact this
theorem tellX_far (G : Good S) (hv : v ∈ S.vols) (h : v.id ≠ v0.id ∨ p ≠ x / S.k) : tellX S v0 x s v p = placeL S (getL (p : Int) v.pl) := by
  rw [← place_secs G hv p]
  unfold tellX
  apply List.map_congr_left
  intro i hi
  have hi := List.mem_range.1 hi
  unfold setF
  split
  · rcases h with h | h
    · exact absurd (by assumption) h
    · refine upd_ne _ _ (fun e => h ?_)
      rw [← e, Nat.mul_comm, Nat.mul_add_div (by omega), Nat.div_eq_of_lt hi, Nat.add_zero]
  · rfl
theorem tellX_at (G : Good S) : (tellX S v0 x s v0 (x / S.k))[x % S.k]? = some s := by
  have hk := G.k1
  unfold tellX
  rw [List.getElem?_map, List.getElem?_range (Nat.mod_lt _ (by omega))]
  show some (setF S v0 x s v0 (x / S.k * S.k + x % S.k)) = _
  rw [Nat.div_add_mod']
  unfold setF
  rw [if_pos rfl, upd_same]
theorem place_lt (hx : x < v0.size.toNat * S.k) : x / S.k < v0.size.toNat := Nat.div_lt_of_lt_mul (by rw [Nat.mul_comm]; exact hx)
/-- Where no chunk stands it can't be. -/
theorem not_fit_none (G : Good S) (hs : s.length = 16) (hv : v0 ∈ S.vols) (hx : x < v0.size.toNat * S.k) (hg : getL ((x / S.k : Nat) : Int) v0.pl = none) (hz : s ≠ zero16) : ¬ FitD S (dumpX S v0 x s) := fun f => by
  have h1 := mem_tellX (v0 := v0) (x := x) G hs hv (place_lt hx)
  rw [hg] at h1
  have h2 := f.2.2.zero _ h1
  rw [List.all_eq_true] at h2
  have := h2 s (List.mem_of_getElem? (tellX_at G))
  exact hz (by simpa using this)
/-- Where several share a chunk it can't be. -/
theorem not_fit_shared (G : Good S) (W : Wf S) (hs : s.length = 16) (hv : v0 ∈ S.vols) (hx : x < v0.size.toNat * S.k) {c : Nat} (hg : getL ((x / S.k : Nat) : Int) v0.pl = some c) (h2 : 1 < cnt S.vols c) (hne : secS S v0 x ≠ s) : ¬ FitD S (dumpX S v0 x s) := fun f => by
  have h1 := mem_tellX (v0 := v0) (x := x) G hs hv (place_lt hx)
  rw [hg] at h1
  obtain ⟨u, hu, q, hq, hd⟩ := two_places W hv hg h2
  have hk := G.keys u hu _ (getL_mem hq)
  dsimp only at hk
  obtain ⟨n, rfl⟩ : ∃ n : Nat, q = (n : Int) := ⟨q.toNat, by omega⟩
  have h3 := mem_tellX (v0 := v0) (x := x) (p := n) G hs hu (by omega)
  rw [tellX_far G hu (by rcases hd with h | h; exact .inl h; exact .inr (by omega)), hq] at h3
  have e := f.2.2.one _ _ _ h1 h3
  have h4 := tellX_at (v0 := v0) (x := x) (s := s) G
  rw [e] at h4
  apply hne
  unfold secS
  rw [hg]
  simp only [placeL] at h4
  dsimp only
  rw [List.getD_eq_getElem?_getD, h4]
  rfl
theorem tellX_same (G : Good S) (hv : v0 ∈ S.vols) {c : Nat} (hg : getL ((x / S.k : Nat) : Int) v0.pl = some c) : tellX S v0 x s v0 (x / S.k) = (S.sec c).set (x % S.k) s := by
  have hk := G.k1
  have hp := place_secs G hv (x / S.k)
  rw [hg] at hp
  simp only [placeL] at hp
  rw [← hp]
  unfold tellX
  apply List.ext_getElem?
  intro i
  rw [List.getElem?_set]
  by_cases hi : i < S.k
  · rw [List.getElem?_map, List.getElem?_range hi, List.getElem?_map, List.getElem?_range hi]
    show some (setF S v0 x s v0 (x / S.k * S.k + i)) = _
    unfold setF
    rw [if_pos rfl]
    by_cases q : x % S.k = i
    · rw [if_pos q, if_pos (by simp; omega), ← q, Nat.div_add_mod', upd_same]
    · rw [if_neg q, upd_ne _ _ (fun e => q (by rw [← e, Nat.mul_comm, Nat.mul_add_mod, Nat.mod_eq_of_lt hi]))]
      rfl
  · have hm := Nat.mod_lt x (show 0 < S.k by omega)
    rw [List.getElem?_eq_none (by simp; omega), if_neg (by omega), List.getElem?_eq_none (by simp; omega)]
theorem tell_alone (G : Good S) (W : Wf S) (hs : s.length = 16) (hv : v0 ∈ S.vols) {c : Nat} (hg : getL ((x / S.k : Nat) : Int) v0.pl = some c) (h1 : cnt S.vols c = 1) {y : Pr} (hy : y ∈ tellA S.k (S.vols.zip (dumpX S v0 x s))) :
    y.2 = placeL { S with sec := upd S.sec c ((S.sec c).set (x % S.k) s) } y.1 := by
  obtain ⟨v, hvv, p, hp, rfl⟩ := tellX_mem G hs hy
  dsimp only
  by_cases q : getL (p : Int) v.pl = some c
  · obtain ⟨rfl, e⟩ := one_place W hv hvv hg q h1
    obtain rfl : p = x / S.k := by omega
    rw [tellX_same G hv hg, hg]
    simp only [placeL]
    rw [upd_same]
  · rw [tellX_far G hvv (by
      by_cases e : v.id = v0.id
      · right
        rintro rfl
        rw [pw_ne W.nd hvv hv e] at q
        exact q hg
      · exact .inl e)]
    cases hd : getL (p : Int) v.pl with
    | none => rfl
    | some d =>
      simp only [placeL]
      rw [upd_ne _ _ (fun e => q (by rw [hd, e]))]
/-- A chunk that stands at one place alone can have another sector. -/
theorem fit_alone (G : Good S) (W : Wf S) (hs : s.length = 16) (hv : v0 ∈ S.vols) {c : Nat} (hg : getL ((x / S.k : Nat) : Int) v0.pl = some c) (h1 : cnt S.vols c = 1) : FitD S (dumpX S v0 x s) := by
  refine ⟨by unfold dumpX; simp, tell_len (fun v hv i _ => setF_len G hv hs i), ⟨fun t ht => ?_, fun d a b h2 h3 => ?_⟩⟩
  · have := tell_alone G W hs hv hg h1 ht
    dsimp only at this
    rw [this]
    simp [placeL]
  · have e1 := tell_alone G W hs hv hg h1 h2
    have e2 := tell_alone G W hs hv hg h1 h3
    dsimp only at e1 e2
    rw [e1, e2]
/-- Behind a Restore the dump is what was told. -/
theorem dump_new (G : Good S) (hs : s.length = 16) (f : FitD S (dumpX S v0 x s)) {sec : Nat → List (List UInt8)} (h : ∀ v ∈ S.vols, ∀ y ∈ v.pl, (some y.2, sec y.2) ∈ tellA S.k (S.vols.zip (dumpX S v0 x s))) : dumpS { S with sec := sec } = dumpX S v0 x s := by
  have hk := G.k1
  rw [dump_flat]
  unfold dumpX
  apply List.map_congr_left
  intro v hv
  apply flat_congr
  intro i hi
  dsimp only at hi
  have hp : i / S.k < v.size.toNat := place_lt hi
  have h1 := mem_tellX (v0 := v0) (x := x) G hs hv hp
  have h2 : (tellX S v0 x s v (i / S.k))[i % S.k]? = some (setF S v0 x s v i) := by
    unfold tellX
    rw [List.getElem?_map, List.getElem?_range (Nat.mod_lt _ (by omega))]
    show some (setF S v0 x s v (i / S.k * S.k + i % S.k)) = _
    rw [Nat.div_add_mod']
  unfold secS
  dsimp only
  cases hg : getL ((i / S.k : Nat) : Int) v.pl with
  | none =>
    rw [hg] at h1
    have := f.2.2.zero _ h1
    rw [List.all_eq_true] at this
    have := this _ (List.mem_of_getElem? h2)
    symm
    simpa using this
  | some c =>
    rw [hg] at h1
    have := f.2.2.one _ _ _ h1 (h v hv _ (getL_mem hg))
    rw [this] at h2
    dsimp only at h2 ⊢
    rw [List.getD_eq_getElem?_getD, h2]
    rfl
theorem sec_own (G : Good S) {sec : Nat → List (List UInt8)} (h : ∀ v ∈ S.vols, ∀ y ∈ v.pl, (some y.2, sec y.2) ∈ tellA S.k (S.vols.zip (dumpS S))) : ∀ v ∈ S.vols, ∀ y ∈ v.pl, sec y.2 = S.sec y.2 := fun v hv y hy => tell_own G (h v hv y hy)
/-- Behind a Restore by a model's own dump the dump is the same. -/
theorem dump_own (G : Good S) {sec : Nat → List (List UInt8)} (h : ∀ v ∈ S.vols, ∀ y ∈ v.pl, (some y.2, sec y.2) ∈ tellA S.k (S.vols.zip (dumpS S))) : dumpS { S with sec := sec } = dumpS S := by
  rw [dump_flat, dump_flat]
  apply List.map_congr_left
  intro v hv
  apply flat_congr
  intro i hi
  unfold secS
  dsimp only
  cases hg : getL ((i / S.k : Nat) : Int) v.pl with
  | none => rfl
  | some c =>
    have := sec_own G h v hv _ (getL_mem hg)
    dsimp only at this ⊢
    rw [this]
theorem good_new (G : Good S) (hs : s.length = 16) {sec : Nat → List (List UInt8)} (h : ∀ v ∈ S.vols, ∀ y ∈ v.pl, (some y.2, sec y.2) ∈ tellA S.k (S.vols.zip (dumpX S v0 x s))) : Good { S with sec := sec } := by
  refine ⟨G.k1, G.k8, G.ids, G.sizes, G.rise, G.keys, fun v hv y hy => ?_⟩
  obtain ⟨u, hu, p, hp, e⟩ := tellX_mem G hs (h v hv y hy)
  injection e with _ e
  dsimp only
  rw [e]
  unfold tellX
  refine ⟨by simp, fun t ht => ?_⟩
  obtain ⟨i, _, rfl⟩ := List.mem_map.1 ht
  exact setF_len G hu hs _
theorem good_own (G : Good S) {sec : Nat → List (List UInt8)} (h : ∀ v ∈ S.vols, ∀ y ∈ v.pl, (some y.2, sec y.2) ∈ tellA S.k (S.vols.zip (dumpS S))) : Good { S with sec := sec } := by
  refine ⟨G.k1, G.k8, G.ids, G.sizes, G.rise, G.keys, fun v hv y hy => ?_⟩
  have := sec_own G h v hv y hy
  dsimp only at this ⊢
  rw [this]
  exact G.secs v hv y hy
theorem wf_new (W : Wf S) (sec : Nat → List (List UInt8)) : Wf { S with sec := sec } := ⟨W.nd, W.rise⟩
/-- One sector of a dump's text made another one. -/
theorem dumpX_text (G : Good S) (hv : v0 ∈ S.vols) (hx : x < v0.size.toNat * S.k) : (readS S v0 0 (v0.size.toNat * S.k)).take (x * 16) ++ s ++ (readS S v0 0 (v0.size.toNat * S.k)).drop (x * 16 + 16) = flat16 (setF S v0 x s v0) (v0.size.toNat * S.k) := by
  rw [readS_flat, flat_set _ (fun i _ => secS_16 G hv i) hx]
  unfold setF
  rw [if_pos rfl]
end
end Go.Proofs.YtlcepoagpocadaaGreatDoor
