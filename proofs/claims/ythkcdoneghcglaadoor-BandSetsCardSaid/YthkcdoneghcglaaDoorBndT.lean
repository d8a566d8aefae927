import Derived.Test.YthkcdoneghcglaaDoorBndO
set_option linter.unusedSimpArgs false
set_option linter.unusedVariables false
/- Plain laws of union, meet and less. -/
namespace Go.Proofs.YthkcdoneghcglaaDoor
open Go
theorem gI_of : ∀ (L : List Int) (lo : Int), L.Pairwise (· < ·) → (∀ x ∈ L, lo < x ∧ x ≤ 9999) → gI lo L = true
  | [], _, _, _ => rfl
  | n :: r, lo, h, hm => by
    rw [List.pairwise_cons] at h
    have h1 := hm n (by simp)
    rw [gI, decide_eq_true h1.1, decide_eq_true h1.2, gI_of r n h.2 fun x hx => ⟨h.1 x hx, (hm x (by simp [hx])).2⟩]; rfl
theorem good_of {L : List Int} (h : L.Pairwise (· < ·)) (hm : ∀ x ∈ L, 0 ≤ x ∧ x ≤ 9999) : goodI L = true := gI_of L (-1) h fun x hx => by have := hm x hx; omega
theorem good_mem {L : List Int} (h : goodI L = true) : ∀ x ∈ L, 0 ≤ x ∧ x ≤ 9999 := fun x hx => by
  have := gI_lo L (-1) h x hx; have := gI_hi L (-1) h x hx; omega
theorem someL_of (f : Bool → Bool → Bool) {A B : List Int} (ha : goodI A = true) (hb : goodI B = true) : someL f A B = pick2 f A B := if_pos ⟨ha, hb⟩
theorem pick2_good (f : Bool → Bool → Bool) {A B : List Int} (ha : goodI A = true) (hb : goodI B = true) : goodI (pick2 f A B) = true := by
  refine good_of (pick2_strict f A B) fun x hx => ?_
  rcases ((pick2_mem f A B x).1 hx).1 with h | h
  · exact good_mem ha x h
  · exact good_mem hb x h
theorem someL_good (f : Bool → Bool → Bool) (A B : List Int) : goodI (someL f A B) = true := by
  unfold someL
  split
  · next h => exact pick2_good f h.1 h.2
  · rfl
theorem meet_less {A B : List Int} (ha : goodI A = true) (hb : goodI B = true) : someL fUn (someL fLe A B) (someL fMe A B) = A := by
  rw [someL_of _ (someL_good _ _ _) (someL_good _ _ _), someL_of _ ha hb, someL_of _ ha hb]
  refine strict_ext (pick2_strict _ _ _) (gI_strict A (-1) ha) fun x => ?_
  rw [pick2_mem, pick2_mem, pick2_mem]
  simp only [fUn, fLe, fMe, Bool.and_eq_true, Bool.not_eq_true', List.contains_iff_mem]
  by_cases hB : x ∈ B <;> simp [hB] <;> intro h <;> simp [h]
theorem less_meet {A B : List Int} (ha : goodI A = true) (hb : goodI B = true) : someL fLe (someL fMe A B) B = [] := by
  rw [someL_of _ (someL_good _ _ _) hb, someL_of _ ha hb]
  refine strict_ext (pick2_strict _ _ _) List.Pairwise.nil fun x => ?_
  rw [pick2_mem]
  constructor
  · rintro ⟨_, h⟩
    simp only [fLe, Bool.and_eq_true, Bool.not_eq_true', List.contains_iff_mem] at h
    have hm := (pick2_mem fMe A B x).1 h.1
    have := hm.2
    simp only [fMe, Bool.and_eq_true, List.contains_iff_mem] at this
    have hc : B.contains x = true := by rw [List.contains_iff_mem]; exact this.2
    rw [hc] at h; cases h.2
  · intro h; cases h
theorem count_two (p q : Int → Bool) : ∀ (U : List Int), (∀ x ∈ U, p x = true ∨ q x = true) → (U.filter p).length + (U.filter q).length = U.length + (U.filter fun x => p x && q x).length
  | [], _ => rfl
  | u :: U, h => by
    have ih := count_two p q U fun x hx => h x (by simp [hx])
    have hu := h u (by simp)
    cases hp : p u <;> cases hq : q u <;> simp [hp, hq, List.filter_cons] at hu ⊢ <;> omega
theorem two_len {A B : List Int} (ha : goodI A = true) (hb : goodI B = true) : (someL fUn A B).length + (someL fMe A B).length = A.length + B.length := by
  rw [someL_of _ ha hb, someL_of _ ha hb]
  have h := count_two (fun x => A.contains x) (fun x => B.contains x) (both A B) (fun x hx => by
    rcases (both_mem A B x).1 hx with q | q
    · left; rw [List.contains_iff_mem]; exact q
    · right; rw [List.contains_iff_mem]; exact q)
  have e1 : (both A B).filter (fun x => A.contains x) = A := by
    refine strict_ext ((both_strict A B).filter _) (gI_strict A (-1) ha) fun x => ?_
    rw [List.mem_filter, both_mem, List.contains_iff_mem]
    exact ⟨fun h => h.2, fun h => ⟨.inl h, h⟩⟩
  have e2 : (both A B).filter (fun x => B.contains x) = B := by
    refine strict_ext ((both_strict A B).filter _) (gI_strict B (-1) hb) fun x => ?_
    rw [List.mem_filter, both_mem, List.contains_iff_mem]
    exact ⟨fun h => h.2, fun h => ⟨.inr h, h⟩⟩
  rw [e1, e2] at h
  have e3 : pick2 fUn A B = both A B := by unfold pick2 fUn; simp
  have e4 : pick2 fMe A B = (both A B).filter fun x => A.contains x && B.contains x := rfl
  rw [e3, e4, h]
end Go.Proofs.YthkcdoneghcglaaDoor
