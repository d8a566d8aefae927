import Derived.Test.YtlcepoagpocadaaGreatDoorMgP
set_option linter.unusedSimpArgs false
set_option linter.unusedVariables false
/- What a dump tells, and what a dump with another sector tells: in plain words. -/
namespace Go.Proofs.YtlcepoagpocadaaGreatDoor
open Go Go.RowKit
def flat16 (f : Nat → List UInt8) (n : Nat) : List UInt8 := (List.range n).flatMap f
theorem flat_succ (f : Nat → List UInt8) (n : Nat) : flat16 f (n + 1) = flat16 f n ++ f n := by
  unfold flat16
  rw [List.range_succ, List.flatMap_append]
  simp
theorem flat_len {f : Nat → List UInt8} (n : Nat) (h : ∀ i, i < n → (f i).length = 16) : (flat16 f n).length = n * 16 := by
  induction n with
  | zero => rfl
  | succ n ih =>
    rw [flat_succ, List.length_append, ih (fun i hi => h i (by omega)), h n (by omega)]
    omega
theorem flat_at {f : Nat → List UInt8} (n : Nat) (h : ∀ i, i < n → (f i).length = 16) {i : Nat} (hi : i < n) : ((flat16 f n).drop (i * 16)).take 16 = f i := by
  induction n with
  | zero => omega
  | succ n ih =>
    have hl := flat_len n (fun i hi => h i (by omega))
    rw [flat_succ]
    by_cases q : i < n
    · have := ih (fun i hi => h i (by omega)) q
      rw [List.drop_append_of_le_length (by omega), List.take_append_of_le_length (by rw [List.length_drop]; omega)]
      exact this
    · obtain rfl : i = n := by omega
      rw [← hl, List.drop_left, List.take_of_length_le (by rw [h i (by omega)]; exact Nat.le_refl _)]
theorem flat_congr {f g : Nat → List UInt8} (n : Nat) (h : ∀ i, i < n → f i = g i) : flat16 f n = flat16 g n := by
  induction n with
  | zero => rfl
  | succ n ih => rw [flat_succ, flat_succ, ih (fun i hi => h i (by omega)), h n (by omega)]
theorem flat_set {f : Nat → List UInt8} (n : Nat) (h : ∀ i, i < n → (f i).length = 16) {x : Nat} (hx : x < n) (s : List UInt8) : (flat16 f n).take (x * 16) ++ s ++ (flat16 f n).drop (x * 16 + 16) = flat16 (upd f x s) n := by
  induction n with
  | zero => omega
  | succ n ih =>
    have hl := flat_len n (fun i hi => h i (by omega))
    rw [flat_succ, flat_succ]
    by_cases q : x < n
    · rw [upd_ne _ _ (by omega), ← ih (fun i hi => h i (by omega)) q, List.take_append_of_le_length (by omega), List.drop_append_of_le_length (by omega)]
      simp [List.append_assoc]
    · obtain rfl : x = n := by omega
      have e : flat16 (upd f x s) x = flat16 f x := flat_congr x (fun i hi => upd_ne _ _ (by omega))
      rw [upd_same, e, ← hl, List.take_left, hl, List.drop_of_length_le (by rw [List.length_append, h x (by omega)]; omega), List.append_nil]
theorem told_flat {f : Nat → List UInt8} {k n p : Nat} (h : ∀ i, i < n * k → (f i).length = 16) (hp : p < n) : toldL k (flat16 f (n * k)) p = (List.range k).map fun i => f (p * k + i) := by
  unfold toldL
  apply List.map_congr_left
  intro i hi
  have hi := List.mem_range.1 hi
  have h2 : (p + 1) * k ≤ n * k := Nat.mul_le_mul_right _ hp
  rw [Nat.add_mul, Nat.one_mul] at h2
  exact flat_at (n * k) h (by omega)
theorem readS_flat (S : MS) (v : Vo) (n : Nat) : readS S v 0 n = flat16 (secS S v) n := by
  unfold readS flat16
  simp
/-- A place's sectors. -/
def placeL (S : MS) (q : Option Nat) : List (List UInt8) := match q with
  | some c => S.sec c
  | none => List.replicate S.k zero16
theorem place_secs {S : MS} (G : Good S) {v : Vo} (hv : v ∈ S.vols) (p : Nat) : ((List.range S.k).map fun i => secS S v (p * S.k + i)) = placeL S (getL (p : Int) v.pl) := by
  have hk := G.k1
  apply List.ext_getElem?
  intro i
  by_cases hi : i < S.k
  · rw [List.getElem?_map, List.getElem?_range hi]
    have e1 : (p * S.k + i) / S.k = p := by rw [Nat.mul_comm, Nat.mul_add_div (by omega), Nat.div_eq_of_lt hi, Nat.add_zero]
    have e2 : (p * S.k + i) % S.k = i := by rw [Nat.mul_comm, Nat.mul_add_mod, Nat.mod_eq_of_lt hi]
    show some (secS S v (p * S.k + i)) = _
    unfold secS
    rw [e1, e2]
    cases hg : getL (p : Int) v.pl with
    | none => simp [placeL, hi]
    | some c =>
      have hl := (G.secs v hv _ (getL_mem hg)).1
      dsimp only at hl
      simp only [placeL]
      rw [List.getD_eq_getElem?_getD, List.getElem?_eq_getElem (by rw [hl]; exact hi)]
      rfl
  · rw [List.getElem?_eq_none (by simp; omega)]
    symm
    apply List.getElem?_eq_none
    cases hg : getL (p : Int) v.pl with
    | none => simp [placeL]; omega
    | some c =>
      have hl := (G.secs v hv _ (getL_mem hg)).1
      dsimp only at hl
      simp only [placeL]
      omega
theorem zip_map_mem {α β : Type} (g : α → β) : ∀ (l : List α) {x : α × β}, x ∈ l.zip (l.map g) → x.1 ∈ l ∧ x.2 = g x.1
  | [], x, h => by simp at h
  | a :: l, x, h => by
    rw [List.map_cons, List.zip_cons_cons] at h
    rcases List.mem_cons.1 h with rfl | h
    · exact ⟨by simp, rfl⟩
    · obtain ⟨h1, h2⟩ := zip_map_mem g l h
      exact ⟨by simp [h1], h2⟩
/-- What is told by texts of sectors. -/
theorem tell_map {S : MS} {f : Vo → Nat → List UInt8} (hf : ∀ v ∈ S.vols, ∀ i, i < v.size.toNat * S.k → (f v i).length = 16) {y : Pr} :
    y ∈ tellA S.k (S.vols.zip (S.vols.map fun v => flat16 (f v) (v.size.toNat * S.k))) → ∃ v ∈ S.vols, ∃ p, p < v.size.toNat ∧ y = (getL (p : Int) v.pl, (List.range S.k).map fun i => f v (p * S.k + i)) := by
  intro hy
  unfold tellA at hy
  obtain ⟨z, hz, h2⟩ := List.mem_flatMap.1 hy
  obtain ⟨h3, h4⟩ := zip_map_mem _ _ hz
  unfold tellV at h2
  obtain ⟨p, hp, rfl⟩ := List.mem_map.1 h2
  have hp := List.mem_range.1 hp
  exact ⟨z.1, h3, p, hp, by rw [h4, told_flat (hf z.1 h3) hp]⟩
theorem tell_len {S : MS} {f : Vo → Nat → List UInt8} (hf : ∀ v ∈ S.vols, ∀ i, i < v.size.toNat * S.k → (f v i).length = 16) : ∀ x ∈ S.vols.zip (S.vols.map fun v => flat16 (f v) (v.size.toNat * S.k)), x.2.length = x.1.size.toNat * S.k * 16 := by
  intro x hx
  obtain ⟨h3, h4⟩ := zip_map_mem _ _ hx
  rw [h4]
  exact flat_len _ (hf x.1 h3)
theorem dump_flat (S : MS) : dumpS S = S.vols.map fun v => flat16 (secS S v) (v.size.toNat * S.k) := by
  unfold dumpS
  apply List.map_congr_left
  intro v _
  exact readS_flat S v _
/-- A model's own dump fits, and tells what is. -/
theorem tell_own {S : MS} (G : Good S) {y : Pr} (hy : y ∈ tellA S.k (S.vols.zip (dumpS S))) : y.2 = placeL S y.1 := by
  rw [dump_flat] at hy
  obtain ⟨v, hv, p, hp, rfl⟩ := tell_map (fun v hv i _ => secS_16 G hv i) hy
  exact place_secs G hv p
theorem fit_own {S : MS} (G : Good S) : FitD S (dumpS S) := by
  refine ⟨by unfold dumpS; simp, ?_, ⟨fun s hs => ?_, fun c s s' h1 h2 => ?_⟩⟩
  · rw [dump_flat]
    exact tell_len (fun v hv i _ => secS_16 G hv i)
  · have := tell_own G hs
    dsimp only at this
    rw [this]
    simp [placeL]
  · have e1 := tell_own G h1
    have e2 := tell_own G h2
    dsimp only at e1 e2
    rw [e1, e2]
theorem not_fit_len {S : MS} {D : List (List UInt8)} (h : D.length ≠ S.vols.length) : ¬ FitD S D := fun f => h f.1
end Go.Proofs.YtlcepoagpocadaaGreatDoor
