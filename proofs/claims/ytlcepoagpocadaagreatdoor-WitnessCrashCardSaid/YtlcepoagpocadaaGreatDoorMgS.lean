import Derived.Test.YtlcepoagpocadaaGreatDoorMgP
set_option linter.unusedSimpArgs false
set_option linter.unusedVariables false
/- What a dump tells, and what a dump with another sector tells: in plain words. -/
namespace Go.Proofs.YtlcepoagpocadaaGreatDoor
open Go Go.RowKit
def flat16 (f : Nat → List UInt8) (n : Nat) : List UInt8 := (List.range n).flatMap f
theorem flat_succ (f : Nat → List UInt8) (n : Nat) : flat16 f (n + 1) = flat16 f n ++ f n := by
  unfold flat16
  rw [List.range_succ, List.flatMap_append]
  simp
theorem flat_len {f : Nat → List UInt8} (n : Nat) (h : ∀ i, i < n → (f i).length = 16) : (flat16 f n).length = n * 16 := by
  induction n with
  | zero => rfl
  | succ n ih =>
    rw [flat_succ, List.length_append, ih (fun i hi => h i (by omega)), h n (by omega)]
    omega
theorem flat_at {f : Nat → List UInt8} (n : Nat) (h : ∀ i, i < n → (f i).length = 16) {i : Nat} (hi : i < n) : ((flat16 f n).drop (i * 16)).take 16 = f i := by
  induction n with
  | zero => omega
  | succ n ih =>
    have hl := flat_len n (fun i hi => h i (by omega))
    rw [flat_succ]
    by_cases q : i < n
    · have := ih (fun i hi => h i (by omega)) q
      rw [List.drop_append_of_le_length (by omega), List.take_append_of_le_length (by rw [List.length_drop]; omega)]
      exact this
    · obtain rfl : i = n := by omega
      rw [← hl, List.drop_left, List.take_of_length_le (by rw [h i (by omega)]; exact Nat.le_refl _)]
theorem flat_congr {f g : Nat → List UInt8} (n : Nat) (h : ∀ i, i < n → f i = g i) : flat16 f n = flat16 g n := by
  induction n with
  | zero => rfl
  | succ n ih => rw [flat_succ, flat_succ, ih (fun i hi => h i (by omega)), h n (by omega)]
theorem flat_set {f : Nat → List UInt8} (n : Nat) (h : ∀ i, i < n → (f i).length = 16) {x : Nat} (hx : x < n) (s : List UInt8) : (flat16 f n).take (x * 16) ++ s ++ (flat16 f n).drop (x * 16 + 16) = flat16 (upd f x s) n := by
  induction n with
  | zero => omega
  | succ n ih =>
    have hl := flat_len n (fun i hi => h i (by omega))
    rw [flat_succ, flat_succ]
    by_cases q : x < n
    · rw [upd_ne _ _ (by omega), ← ih (fun i hi => h i (by omega)) q, List.take_append_of_le_length (by omega), List.drop_append_of_le_length (by omega)]
      simp [List.append_assoc]
    · obtain rfl : x = n := by omega
      have e : flat16 (upd f x s) x = flat16 f x := flat_congr x (fun i hi => upd_ne _ _ (by omega))
      rw [upd_same, e, ← hl, List.take_left, hl, List.drop_of_length_le (by rw [List.length_append, h x (by omega)]; omega), List.append_nil]
theorem told_flat {f : Nat → List UInt8} {k n p : Nat} (h : ∀ i, i < n * k → (f i).length = 16) (hp : p < n) : toldL k (flat16 f (n * k)) p = (List.range k).map fun i => f (p * k + i) := by
  unfold toldL
  apply List.map_congr_left
  intro i hi
  have hi := List.mem_range.1 hi
  have h2 : (p + 1) * k ≤ n * k := Nat.mul_le_mul_right _ hp
  rw [Nat.add_mul, Nat.one_mul] at h2
  exact flat_at (n * k) h (by omega)
theorem readS_flat (S : MS) (v : Vo) (n : Nat) : readS S v 0 n = flat16 (secS S v) n := by
  unfold readS flat16
  simp
/-- A place's sectors. -/
def placeL (S : MS) (q : Option Nat) : List (List UInt8) := match q with
  | some c => S.sec c
  | none => List.replicate S.k zero16
theorem place_secs {S : MS} (G : Good S) {v : Vo} (hv : v ∈ S.vols) (p : Nat) : ((List.range S.k).map fun i => secS S v (p * S.k + i)) = placeL S (getL (p : Int) v.pl) := by
  have hk := G.k1
  apply List.ext_getElem?
  intro i
  by_cases hi : i < S.k
  · rw [List.getElem?_map, List.getElem?_range hi]
    have e1 : (p * S.k + i) / S.k = p := by rw [Nat.mul_comm, Nat.mul_add_div (by omega), Nat.div_eq_of_lt hi, Nat.add_zero]
    have e2 : (p * S.k + i) % S.k = i := by rw [Nat.mul_comm, Nat.mul_add_mod, Nat.mod_eq_of_lt hi]
    show some (secS S v (p * S.k + i)) = _
    unfold secS
    rw [e1, e2]
    cases hg : getL (p : Int) v.pl with
    | none => simp [placeL, hi]
    | some c =>
      have hl := (G.secs v hv _ (getL_mem hg)).1
      dsimp only at hl
      simp only [placeL]
      rw [List.getD_eq_getElem?_getD, List.getElem?_eq_getElem (by rw [hl]; exact hi)]
      rfl
  · rw [List.getElem?_eq_none (by simp; omega)]
    symm
    apply List.getElem?_eq_none
    cases hg : getL (p : Int) v.pl with
    | none => simp [placeL]; omega
    | some c =>
      have hl := (G.secs v hv _ (getL_mem hg)).1
      dsimp only at hl
      simp only [placeL]
      omega
theorem zip_map_mem {α β : Type} (g : α → β) : ∀ (l : List α) {x : α × β}, x ∈ l.zip (l.map g) → x.1 ∈ l ∧ x.2 = g x.1
  | [], x, h => by simp at h
  | a :: l, x, h => by
    rw [List.map_cons, List.zip_cons_cons] at h
    rcases List.mem_cons.1 h with rfl | h
    · exact ⟨by simp, rfl⟩
    · obtain ⟨h1, h2⟩ := zip_map_mem g l h
      exact ⟨by simp [h1], h2⟩
/-- What is told by texts of sectors. -/
theorem tell_map {S : MS} {f : Vo → Nat → List UInt8} (hf : ∀ v ∈ S.vols, ∀ i, i < v.size.toNat * S.k → (f v i).length = 16) {y : Pr} :
    y ∈ tellA S.k (S.vols.zip (S.vols.map fun v => flat16 (f v) (v.size.toNat * S.k))) → ∃ v ∈ S.vols, ∃ p, p < v.size.toNat ∧ y = (getL (p : Int) v.pl, (List.range S.k).map fun i => f v (p * S.k + i)) := by
  intro hy
  unfold tellA at hy
  obtain ⟨z, hz, h2⟩ := List.mem_flatMap.1 hy
  obtain ⟨h3, h4⟩ := zip_map_mem _ _ hz
  unfold tellV at h2
  obtain ⟨p, hp, rfl⟩ := List.mem_map.1 h2
  have hp := List.mem_range.1 hp
  exact ⟨z.1, h3, p, hp, by rw [h4, told_flat (hf z.1 h3) hp]⟩
theorem tell_len {S : MS} {f : Vo → Nat → List UInt8} (hf : ∀ v ∈ S.vols, ∀ i, i < v.size.toNat * S.k → (f v i).length = 16) : ∀ x ∈ S.vols.zip (S.vols.map fun v => flat16 (f v) (v.size.toNat * S.k)), x.2.length = x.1.size.toNat * S.k * 16 := by
  intro x hx
  obtain ⟨h3, h4⟩ := zip_map_mem _ _ hx
  rw [h4]
  exact flat_len _ (hf x.1 h3)
theorem dump_flat (S : MS) : dumpS S = S.vols.map fun v => flat16 (secS S v) (v.size.toNat * S.k) := by
  unfold dumpS
  apply List.map_congr_left
  intro v _
  exact readS_flat S v _
/-- A model's own dump fits, and tells what is. -/
theorem tell_own {S : MS} (G : Good S) {y : Pr} (hy : y ∈ tellA S.k (S.vols.zip (dumpS S))) : y.2 = placeL S y.1 := by
  rw [dump_flat] at hy
  obtain ⟨v, hv, p, hp, rfl⟩ := tell_map (fun v hv i _ => secS_16 G hv i) hy
  exact place_secs G hv p
theorem fit_own {S : MS} (G : Good S) : FitD S (dumpS S) := by
  refine ⟨by unfold dumpS; simp, ?_, ⟨fun s hs => ?_, fun c s s' h1 h2 => ?_⟩⟩
  · rw [dump_flat]
    exact tell_len (fun v hv i _ => secS_16 G hv i)
  · have := tell_own G hs
    dsimp only at this
    rw [this]
    simp [placeL]
  · have e1 := tell_own G h1
    have e2 := tell_own G h2
    dsimp only at e1 e2
    rw [e1, e2]
theorem not_fit_len {S : MS} {D : List (List UInt8)} (h : D.length ≠ S.vols.length) : ¬ FitD S D := fun f => h f.1
end Go.Proofs.YtlcepoagpocadaaGreatDoor
/- A chunk's places: one alone, or another one. -/
namespace Go.Proofs.YtlcepoagpocadaaGreatDoor
open Go Go.RowKit
theorem one_place {S : MS} (W : Wf S) {v u : Vo} (hv : v ∈ S.vols) (hu : u ∈ S.vols) {p q : Int} {c : Nat} (hp : getL p v.pl = some c) (hq : getL q u.pl = some c) (h1 : cnt S.vols c = 1) : u = v ∧ q = p := by
  have hr := cnt_rem c W.nd hv
  have hd := cntL_del (p := p) c (W.rise v hv)
  rw [if_pos hp] at hd
  have hid : u = v := by
    by_cases e : u.id = v.id
    · exact pw_ne W.nd hu hv e
    · have : 0 < cnt (remV v.id S.vols) c := cnt_pos.2 ⟨u, by unfold remV; simp [hu, e], _, getL_mem hq, rfl⟩
      omega
  subst hid
  refine ⟨rfl, ?_⟩
  by_cases e : q = p
  · exact e
  · have : 0 < cntL c (delL p u.pl) := cntL_pos.2 ⟨(q, c), mem_delL.2 ⟨getL_mem hq, e⟩, rfl⟩
    omega
theorem two_places {S : MS} (W : Wf S) {v : Vo} (hv : v ∈ S.vols) {p : Int} {c : Nat} (hp : getL p v.pl = some c) (h2 : 1 < cnt S.vols c) : ∃ u ∈ S.vols, ∃ q, getL q u.pl = some c ∧ (u.id ≠ v.id ∨ q ≠ p) := by
  have hr := cnt_rem c W.nd hv
  have hd := cntL_del (p := p) c (W.rise v hv)
  rw [if_pos hp] at hd
  by_cases q0 : 0 < cntL c (delL p v.pl)
  · obtain ⟨x, hx, e⟩ := cntL_pos.1 q0
    obtain ⟨h3, h4⟩ := mem_delL.1 hx
    exact ⟨v, hv, x.1, by rw [(W.rise v hv).get h3, e], .inr h4⟩
  · obtain ⟨u, hu, x, hx, e⟩ := cnt_pos.1 (show 0 < cnt (remV v.id S.vols) c by omega)
    unfold remV at hu
    obtain ⟨h3, h4⟩ := List.mem_filter.1 hu
    refine ⟨u, h3, x.1, by rw [(W.rise u h3).get hx, e], .inl ?_⟩
    simpa using h4
/-- A volume's sectors with one of a volume another one. -/
def setF (S : MS) (v0 : Vo) (x : Nat) (s : List UInt8) (v : Vo) : Nat → List UInt8 := if v.id = v0.id then upd (secS S v) x s else secS S v
def dumpX (S : MS) (v0 : Vo) (x : Nat) (s : List UInt8) : List (List UInt8) := S.vols.map fun v => flat16 (setF S v0 x s v) (v.size.toNat * S.k)
def tellX (S : MS) (v0 : Vo) (x : Nat) (s : List UInt8) (v : Vo) (p : Nat) : List (List UInt8) := (List.range S.k).map fun i => setF S v0 x s v (p * S.k + i)
section
variable {S : MS} {v0 v : Vo} {x p : Nat} {s : List UInt8}
theorem setF_len (G : Good S) (hv : v ∈ S.vols) (hs : s.length = 16) (i : Nat) : (setF S v0 x s v i).length = 16 := by
  unfold setF
  split
  · by_cases q : i = x
    · rw [q, upd_same]; exact hs
    · rw [upd_ne _ _ q]; exact secS_16 G hv i
  · exact secS_16 G hv i
theorem tellX_mem (G : Good S) (hs : s.length = 16) {y : Pr} (hy : y ∈ tellA S.k (S.vols.zip (dumpX S v0 x s))) : ∃ v ∈ S.vols, ∃ p, p < v.size.toNat ∧ y = (getL (p : Int) v.pl, tellX S v0 x s v p) :=
  tell_map (fun v hv i _ => setF_len G hv hs i) hy
theorem mem_tellX (G : Good S) (hs : s.length = 16) (hv : v ∈ S.vols) (hp : p < v.size.toNat) : (getL (p : Int) v.pl, tellX S v0 x s v p) ∈ tellA S.k (S.vols.zip (dumpX S v0 x s)) := by
  obtain ⟨i, hi⟩ := List.mem_iff_getElem?.1 hv
  have hz : (S.vols.zip (dumpX S v0 x s))[i]? = some (v, flat16 (setF S v0 x s v) (v.size.toNat * S.k)) := by
    rw [List.getElem?_zip_eq_some]
    refine ⟨hi, ?_⟩
    unfold dumpX
    rw [List.getElem?_map, hi]
    rfl
  have := tellA_mem (k := S.k) hz hp
  dsimp only at this
  rw [told_flat (fun i _ => setF_len G hv hs i) hp] at this
  exact this
theorem tellX_far (G : Good S) (hv : v ∈ S.vols) (h : v.id ≠ v0.id ∨ p ≠ x / S.k) : tellX S v0 x s v p = placeL S (getL (p : Int) v.pl) := by
  rw [← place_secs G hv p]
  unfold tellX
  apply List.map_congr_left
  intro i hi
  have hi := List.mem_range.1 hi
  unfold setF
  split
  · rcases h with h | h
    · exact absurd (by assumption) h
    · refine upd_ne _ _ (fun e => h ?_)
      rw [← e, Nat.mul_comm, Nat.mul_add_div (by omega), Nat.div_eq_of_lt hi, Nat.add_zero]
  · rfl
theorem tellX_at (G : Good S) : (tellX S v0 x s v0 (x / S.k))[x % S.k]? = some s := by
  have hk := G.k1
  unfold tellX
  rw [List.getElem?_map, List.getElem?_range (Nat.mod_lt _ (by omega))]
  show some (setF S v0 x s v0 (x / S.k * S.k + x % S.k)) = _
  rw [Nat.div_add_mod']
  unfold setF
  rw [if_pos rfl, upd_same]
theorem place_lt (hx : x < v0.size.toNat * S.k) : x / S.k < v0.size.toNat := Nat.div_lt_of_lt_mul (by rw [Nat.mul_comm]; exact hx)
/-- Where no chunk stands it can't be. -/
theorem not_fit_none (G : Good S) (hs : s.length = 16) (hv : v0 ∈ S.vols) (hx : x < v0.size.toNat * S.k) (hg : getL ((x / S.k : Nat) : Int) v0.pl = none) (hz : s ≠ zero16) : ¬ FitD S (dumpX S v0 x s) := fun f => by
  have h1 := mem_tellX (v0 := v0) (x := x) G hs hv (place_lt hx)
  rw [hg] at h1
  have h2 := f.2.2.zero _ h1
  rw [List.all_eq_true] at h2
  have := h2 s (List.mem_of_getElem? (tellX_at G))
  exact hz (by simpa using this)
/-- Where several share a chunk it can't be. -/
theorem not_fit_shared (G : Good S) (W : Wf S) (hs : s.length = 16) (hv : v0 ∈ S.vols) (hx : x < v0.size.toNat * S.k) {c : Nat} (hg : getL ((x / S.k : Nat) : Int) v0.pl = some c) (h2 : 1 < cnt S.vols c) (hne : secS S v0 x ≠ s) : ¬ FitD S (dumpX S v0 x s) := fun f => by
  have h1 := mem_tellX (v0 := v0) (x := x) G hs hv (place_lt hx)
  rw [hg] at h1
  obtain ⟨u, hu, q, hq, hd⟩ := two_places W hv hg h2
  have hk := G.keys u hu _ (getL_mem hq)
  dsimp only at hk
  obtain ⟨n, rfl⟩ : ∃ n : Nat, q = (n : Int) := ⟨q.toNat, by omega⟩
  have h3 := mem_tellX (v0 := v0) (x := x) (p := n) G hs hu (by omega)
  rw [tellX_far G hu (by rcases hd with h | h; exact .inl h; exact .inr (by omega)), hq] at h3
  have e := f.2.2.one _ _ _ h1 h3
  have h4 := tellX_at (v0 := v0) (x := x) (s := s) G
  rw [e] at h4
  apply hne
  unfold secS
  rw [hg]
  simp only [placeL] at h4
  dsimp only
  rw [List.getD_eq_getElem?_getD, h4]
  rfl
theorem tellX_same (G : Good S) (hv : v0 ∈ S.vols) {c : Nat} (hg : getL ((x / S.k : Nat) : Int) v0.pl = some c) : tellX S v0 x s v0 (x / S.k) = (S.sec c).set (x % S.k) s := by
  have hk := G.k1
  have hp := place_secs G hv (x / S.k)
  rw [hg] at hp
  simp only [placeL] at hp
  rw [← hp]
  unfold tellX
  apply List.ext_getElem?
  intro i
  rw [List.getElem?_set]
  by_cases hi : i < S.k
  · rw [List.getElem?_map, List.getElem?_range hi, List.getElem?_map, List.getElem?_range hi]
    show some (setF S v0 x s v0 (x / S.k * S.k + i)) = _
    unfold setF
    rw [if_pos rfl]
    by_cases q : x % S.k = i
    · rw [if_pos q, if_pos (by simp; omega), ← q, Nat.div_add_mod', upd_same]
    · rw [if_neg q, upd_ne _ _ (fun e => q (by rw [← e, Nat.mul_comm, Nat.mul_add_mod, Nat.mod_eq_of_lt hi]))]
      rfl
  · have hm := Nat.mod_lt x (show 0 < S.k by omega)
    rw [List.getElem?_eq_none (by simp; omega), if_neg (by omega), List.getElem?_eq_none (by simp; omega)]
theorem tell_alone (G : Good S) (W : Wf S) (hs : s.length = 16) (hv : v0 ∈ S.vols) {c : Nat} (hg : getL ((x / S.k : Nat) : Int) v0.pl = some c) (h1 : cnt S.vols c = 1) {y : Pr} (hy : y ∈ tellA S.k (S.vols.zip (dumpX S v0 x s))) :
    y.2 = placeL { S with sec := upd S.sec c ((S.sec c).set (x % S.k) s) } y.1 := by
  obtain ⟨v, hvv, p, hp, rfl⟩ := tellX_mem G hs hy
  dsimp only
  by_cases q : getL (p : Int) v.pl = some c
  · obtain ⟨rfl, e⟩ := one_place W hv hvv hg q h1
    obtain rfl : p = x / S.k := by omega
    rw [tellX_same G hv hg, hg]
    simp only [placeL]
    rw [upd_same]
  · rw [tellX_far G hvv (by
      by_cases e : v.id = v0.id
      · right
        rintro rfl
        rw [pw_ne W.nd hvv hv e] at q
        exact q hg
      · exact .inl e)]
    cases hd : getL (p : Int) v.pl with
    | none => rfl
    | some d =>
      simp only [placeL]
      rw [upd_ne _ _ (fun e => q (by rw [hd, e]))]
/-- A chunk that stands at one place alone can have another sector. -/
theorem fit_alone (G : Good S) (W : Wf S) (hs : s.length = 16) (hv : v0 ∈ S.vols) {c : Nat} (hg : getL ((x / S.k : Nat) : Int) v0.pl = some c) (h1 : cnt S.vols c = 1) : FitD S (dumpX S v0 x s) := by
  refine ⟨by unfold dumpX; simp, tell_len (fun v hv i _ => setF_len G hv hs i), ⟨fun t ht => ?_, fun d a b h2 h3 => ?_⟩⟩
  · have := tell_alone G W hs hv hg h1 ht
    dsimp only at this
    rw [this]
    simp [placeL]
  · have e1 := tell_alone G W hs hv hg h1 h2
    have e2 := tell_alone G W hs hv hg h1 h3
    dsimp only at e1 e2
    rw [e1, e2]
/-- Behind a Restore the dump is what was told. -/
theorem dump_new (G : Good S) (hs : s.length = 16) (f : FitD S (dumpX S v0 x s)) {sec : Nat → List (List UInt8)} (h : ∀ v ∈ S.vols, ∀ y ∈ v.pl, (some y.2, sec y.2) ∈ tellA S.k (S.vols.zip (dumpX S v0 x s))) : dumpS { S with sec := sec } = dumpX S v0 x s := by
  have hk := G.k1
  rw [dump_flat]
  unfold dumpX
  apply List.map_congr_left
  intro v hv
  apply flat_congr
  intro i hi
  dsimp only at hi
  have hp : i / S.k < v.size.toNat := place_lt hi
  have h1 := mem_tellX (v0 := v0) (x := x) G hs hv hp
  have h2 : (tellX S v0 x s v (i / S.k))[i % S.k]? = some (setF S v0 x s v i) := by
    unfold tellX
    rw [List.getElem?_map, List.getElem?_range (Nat.mod_lt _ (by omega))]
    show some (setF S v0 x s v (i / S.k * S.k + i % S.k)) = _
    rw [Nat.div_add_mod']
  unfold secS
  dsimp only
  cases hg : getL ((i / S.k : Nat) : Int) v.pl with
  | none =>
    rw [hg] at h1
    have := f.2.2.zero _ h1
    rw [List.all_eq_true] at this
    have := this _ (List.mem_of_getElem? h2)
    symm
    simpa using this
  | some c =>
    rw [hg] at h1
    have := f.2.2.one _ _ _ h1 (h v hv _ (getL_mem hg))
    rw [this] at h2
    dsimp only at h2 ⊢
    rw [List.getD_eq_getElem?_getD, h2]
    rfl
theorem sec_own (G : Good S) {sec : Nat → List (List UInt8)} (h : ∀ v ∈ S.vols, ∀ y ∈ v.pl, (some y.2, sec y.2) ∈ tellA S.k (S.vols.zip (dumpS S))) : ∀ v ∈ S.vols, ∀ y ∈ v.pl, sec y.2 = S.sec y.2 := fun v hv y hy => tell_own G (h v hv y hy)
/-- Behind a Restore by a model's own dump the dump is the same. -/
theorem dump_own (G : Good S) {sec : Nat → List (List UInt8)} (h : ∀ v ∈ S.vols, ∀ y ∈ v.pl, (some y.2, sec y.2) ∈ tellA S.k (S.vols.zip (dumpS S))) : dumpS { S with sec := sec } = dumpS S := by
  rw [dump_flat, dump_flat]
  apply List.map_congr_left
  intro v hv
  apply flat_congr
  intro i hi
  unfold secS
  dsimp only
  cases hg : getL ((i / S.k : Nat) : Int) v.pl with
  | none => rfl
  | some c =>
    have := sec_own G h v hv _ (getL_mem hg)
    dsimp only at this ⊢
    rw [this]
theorem good_new (G : Good S) (hs : s.length = 16) {sec : Nat → List (List UInt8)} (h : ∀ v ∈ S.vols, ∀ y ∈ v.pl, (some y.2, sec y.2) ∈ tellA S.k (S.vols.zip (dumpX S v0 x s))) : Good { S with sec := sec } := by
  refine ⟨G.k1, G.k8, G.ids, G.sizes, G.rise, G.keys, fun v hv y hy => ?_⟩
  obtain ⟨u, hu, p, hp, e⟩ := tellX_mem G hs (h v hv y hy)
  injection e with _ e
  dsimp only
  rw [e]
  unfold tellX
  refine ⟨by simp, fun t ht => ?_⟩
  obtain ⟨i, _, rfl⟩ := List.mem_map.1 ht
  exact setF_len G hu hs _
theorem good_own (G : Good S) {sec : Nat → List (List UInt8)} (h : ∀ v ∈ S.vols, ∀ y ∈ v.pl, (some y.2, sec y.2) ∈ tellA S.k (S.vols.zip (dumpS S))) : Good { S with sec := sec } := by
  refine ⟨G.k1, G.k8, G.ids, G.sizes, G.rise, G.keys, fun v hv y hy => ?_⟩
  have := sec_own G h v hv y hy
  dsimp only at this ⊢
  rw [this]
  exact G.secs v hv y hy
theorem wf_new (W : Wf S) (sec : Nat → List (List UInt8)) : Wf { S with sec := sec } := ⟨W.nd, W.rise⟩
/-- One sector of a dump's text made another one. -/
theorem dumpX_text (G : Good S) (hv : v0 ∈ S.vols) (hx : x < v0.size.toNat * S.k) : (readS S v0 0 (v0.size.toNat * S.k)).take (x * 16) ++ s ++ (readS S v0 0 (v0.size.toNat * S.k)).drop (x * 16 + 16) = flat16 (setF S v0 x s v0) (v0.size.toNat * S.k) := by
  rw [readS_flat, flat_set _ (fun i _ => secS_16 G hv i) hx]
  unfold setF
  rw [if_pos rfl]
end
end Go.Proofs.YtlcepoagpocadaaGreatDoor
set_option maxRecDepth 100000
/- Restore of no model; what a write of one sector wants. -/
namespace Go.Proofs.YtlcepoagpocadaaGreatDoor
open Go Go.RowKit
theorem restore_nil (w : World) (vd : Value) : Calls Tryz.prog 33 #[.pointer none, vd] w fun e w' => e = .returned (.bool false) ∧ Same w w' := by
  refine opq fun R HR => ?_
  go_enter Tryz.func33, Tryz.ntmps33
  go_wp2
  exact HR.out _ _ ⟨rfl, Mod.refl _ _⟩
/-- A write of one sector wants a chunk or none. -/
theorem want_at {S : MS} (G : Good S) (W : Wf S) {v : Vo} (hv : v ∈ S.vols) {x : Nat} (hx : x < v.size.toNat * S.k) {s : List UInt8} (hs : s.length = 16) : wantS S 7 [v.id, (x : Int)] [s] = if needS S v (x / S.k) = true then 1 else 0 := by
  have hk := G.k1
  have hf : findV S v.id = some v := by
    cases h : findV S v.id with
    | none =>
      unfold findV at h
      have := List.find?_eq_none.1 h v hv
      simp at this
    | some u =>
      obtain ⟨h1, h2⟩ := findV_mem h
      rw [pw_ne W.nd h1 hv h2]
  have hz := G.sizes v hv
  have hx2 : (x : Int) < v.size * S.k := by
    have e : ((v.size.toNat * S.k : Nat) : Int) = v.size * S.k := by
      rw [Int.natCast_mul, show ((v.size.toNat : Nat) : Int) = v.size by omega]
    rw [← e]
    omega
  have hw : writeE S v.id (x : Int) s = 0 := by
    unfold writeE rangeS
    rw [hf]
    dsimp only
    rw [hs, if_neg (by decide), if_neg (by omega), if_neg (by omega)]
  unfold wantS
  simp only [List.getD_cons_zero, List.getD_cons_succ]
  rw [hf]
  dsimp only
  rw [if_pos hw, hs, show (x : Int).toNat = x by simp]
  have hr : rangeP S.k x (16 / 16) = [x / S.k] := by
    unfold rangeP
    rw [show x + 16 / 16 - 1 = x by omega, show x / S.k + 1 - x / S.k = 1 by omega]
    simp
  rw [hr]
  by_cases q : needS S v (x / S.k) = true <;> simp [q]
end Go.Proofs.YtlcepoagpocadaaGreatDoor
