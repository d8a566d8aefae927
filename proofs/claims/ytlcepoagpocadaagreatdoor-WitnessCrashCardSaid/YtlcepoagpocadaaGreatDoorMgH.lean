import Derived.Test.YtlcepoagpocadaaGreatDoorMgF
import Derived.Test.YtlcepoagpocadaaGreatDoorMfB
set_option linter.unusedSimpArgs false
set_option linter.unusedVariables false
/- An order that fails changes nothing; what other volumes read behind an order. -/
namespace Go.Proofs.YtlcepoagpocadaaGreatDoor
open Go Go.RowKit
theorem do_err {S S' : MS} {k : Nat} {ns : List Int} {ts : List (List UInt8)} {e : Int} {d : List UInt8} {t : Bool} (h : DoR S k ns ts e d t S') (he : e ≠ 0) : S' = S ∧ d = [] := by
  unfold DoR at h
  by_cases q : ts.all (fun t => decide (t.length ≤ 512)) = false
  · rw [if_pos q] at h
    exact ⟨h.2.2.2, h.2.1⟩
  · rw [if_neg q] at h
    generalize ns.getD 0 0 = a0 at h
    generalize ns.getD 1 0 = a1 at h
    generalize ns.getD 2 0 = a2 at h
    generalize ts.getD 0 [] = t0 at h
    split at h
    · obtain ⟨⟨b, pb, e1⟩, hd, -⟩ := h
      refine ⟨?_, hd⟩
      unfold createS at e1
      by_cases r : a0 < 1 ∨ 16 < a0 ∨ a1 < 0 ∨ 64 < a1
      · rw [if_pos r] at e1; cases e1; rfl
      · rw [if_neg r] at e1
        cases hf : findV S a0 with
        | some v => rw [hf] at e1; cases e1; rfl
        | none => rw [hf] at e1; cases e1; exact absurd rfl he
    · obtain ⟨e1, hd, -⟩ := h
      refine ⟨?_, hd⟩
      unfold deleteS at e1
      cases hf : findV S a0 with
      | none => rw [hf] at e1; cases e1; rfl
      | some v => rw [hf] at e1; cases e1; exact absurd rfl he
    · obtain ⟨⟨b, pb, e1⟩, hd, -⟩ := h
      refine ⟨?_, hd⟩
      unfold snapS at e1
      cases hf : findV S a0 with
      | none => rw [hf] at e1; cases e1; rfl
      | some v =>
        rw [hf] at e1
        dsimp only at e1
        by_cases r : a1 < 1 ∨ 16 < a1
        · rw [if_pos r] at e1; cases e1; rfl
        · rw [if_neg r] at e1
          cases hf2 : findV S a1 with
          | some v2 => rw [hf2] at e1; cases e1; rfl
          | none => rw [hf2] at e1; cases e1; exact absurd rfl he
    · obtain ⟨e1, hd, -⟩ := h
      refine ⟨?_, hd⟩
      unfold resizeS at e1
      cases hf : findV S a0 with
      | none => rw [hf] at e1; cases e1; rfl
      | some v =>
        rw [hf] at e1
        dsimp only at e1
        by_cases r : a1 < 0 ∨ 64 < a1
        · rw [if_pos r] at e1; cases e1; rfl
        · rw [if_neg r] at e1; cases e1; exact absurd rfl he
    · obtain ⟨e1, hd, -⟩ := h
      refine ⟨?_, hd⟩
      unfold pinS at e1
      cases hf : findV S a0 with
      | none => rw [hf] at e1; cases e1; rfl
      | some v => rw [hf] at e1; cases e1; exact absurd rfl he
    · obtain ⟨e1, hd, -⟩ := h
      refine ⟨?_, hd⟩
      unfold pinS at e1
      cases hf : findV S a0 with
      | none => rw [hf] at e1; cases e1; rfl
      | some v => rw [hf] at e1; cases e1; exact absurd rfl he
    · obtain ⟨hs, -, h0, hd⟩ := h
      refine ⟨hs, ?_⟩
      rw [hd]
      cases hf : findV S a0 with
      | none => rfl
      | some v => dsimp only; rw [if_neg (by rw [← h0]; exact he)]
    · obtain ⟨hd, -, h0, h⟩ := h
      rw [if_neg (by rw [← h0]; exact he)] at h
      exact ⟨h, hd⟩
    · obtain ⟨hd, -, h0, h⟩ := h
      rw [if_neg (by rw [← h0]; exact he)] at h
      exact ⟨h, hd⟩
    · exact absurd h.1 he
    · exact absurd h.1 he
theorem find_own' {l : List Vo} (nd : l.Pairwise fun a b => a.id < b.id) {v : Vo} (hv : v ∈ l) : l.find? (fun u => decide (u.id = v.id)) = some v := by
  cases h : l.find? (fun u => decide (u.id = v.id)) with
  | none =>
    have := List.find?_eq_none.1 h v hv
    simp at this
  | some u =>
    have h1 := List.mem_of_find?_eq_some h
    have h2 := List.find?_some h
    rw [pw_ne nd h1 hv (of_decide_eq_true h2)]
/-- Another volume is told, and reads, as it did. -/
theorem stay_found {S S' : MS} (G : Good S) (W : Wf S) {k : Nat} {ns : List Int} {ts : List (List UInt8)} {e : Int} {d : List UInt8} {t : Bool} (h : DoR S k ns ts e d t S') {v : Vo} (hv : v ∈ S.vols) (hne : v.id ≠ ofK k ns) :
    ∃ u ∈ S'.vols, infoV u = infoV v ∧ dumpV S' u = dumpV S v := by
  obtain ⟨u, h1, h2, h3⟩ := stay_do G W h hne v (find_own' W.nd hv)
  exact ⟨u, (findV_mem h1).1, h2, dumpV_same (good_do G W h).2.2 (infoV_size h2) h3⟩
/-- Whether one of these is told, and reads, so. -/
def fnd (S S' : MS) (v : Vo) (l : List Vo) : Bool := l.any fun u => decide (infoV u = infoV v) && decide (dumpV S' u = dumpV S v)
theorem fnd_snoc (S S' : MS) (v u : Vo) (l : List Vo) : fnd S S' v (l ++ [u]) = (fnd S S' v l || (decide (infoV u = infoV v) && decide (dumpV S' u = dumpV S v))) := by
  unfold fnd
  rw [List.any_append]; simp
theorem fnd_all {S S' : MS} (G : Good S) (W : Wf S) {k : Nat} {ns : List Int} {ts : List (List UInt8)} {e : Int} {d : List UInt8} {t : Bool} (h : DoR S k ns ts e d t S') {v : Vo} (hv : v ∈ S.vols) (hne : v.id ≠ ofK k ns) : fnd S S' v S'.vols = true := by
  obtain ⟨u, h1, h2, h3⟩ := stay_found G W h hv hne
  unfold fnd
  exact List.any_eq_true.2 ⟨u, h1, by rw [h2, h3]; simp⟩
end Go.Proofs.YtlcepoagpocadaaGreatDoor
