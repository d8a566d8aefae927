import Derived.Test.YtlcepoagpocadaaGreatDoorMgB
set_option linter.unusedSimpArgs false
set_option linter.unusedVariables false
/- What a copy of a state is: plain laws. -/
namespace Go.Proofs.YtlcepoagpocadaaGreatDoor
open Go Go.RowKit
theorem sorted_eq {γ : Type} (key : γ → Int) : ∀ {L1 L2 : List γ}, L1.Pairwise (fun a b => key a < key b) → L2.Pairwise (fun a b => key a < key b) → (∀ x, x ∈ L1 ↔ x ∈ L2) → L1 = L2
  | [], [], _, _, _ => rfl
  | [], y :: r, _, _, h => by have := (h y).2 (by simp); cases this
  | x :: r, [], _, _, h => by have := (h x).1 (by simp); cases this
  | x :: r, y :: s, h1, h2, h => by
    obtain ⟨a1, a2⟩ := List.pairwise_cons.1 h1
    obtain ⟨b1, b2⟩ := List.pairwise_cons.1 h2
    have e : x = y := by
      rcases List.mem_cons.1 ((h x).1 (by simp)) with q | q
      · exact q
      · rcases List.mem_cons.1 ((h y).2 (by simp)) with q2 | q2
        · exact q2.symm
        · have := a1 y q2
          have := b1 x q
          omega
    subst e
    rw [sorted_eq key a2 b2 (fun z => ?_)]
    constructor
    · intro hz
      rcases List.mem_cons.1 ((h z).1 (by simp [hz])) with q | q
      · rw [q] at hz
        have := a1 x hz; omega
      · exact q
    · intro hz
      rcases List.mem_cons.1 ((h z).2 (by simp [hz])) with q | q
      · rw [q] at hz
        have := b1 x hz; omega
      · exact q
/-- A volume is another's copy: A names each chunk's copy. -/
structure CpV (A : List (Nat × Nat)) (v u : Vo) : Prop where
  id : u.id = v.id
  size : u.size = v.size
  fr : u.fr = v.fr
  pin : u.pin = v.pin
  one : ∀ x ∈ u.pl, ∃ c, (x.1, c) ∈ v.pl ∧ (c, x.2) ∈ A
  two : ∀ x ∈ v.pl, ∃ d, (x.1, d) ∈ u.pl ∧ (x.2, d) ∈ A
  rise : Rise u.pl
theorem CpV.mono {A A' : List (Nat × Nat)} {v u : Vo} (h : CpV A v u) (hA : ∀ x ∈ A, x ∈ A') : CpV A' v u :=
  ⟨h.id, h.size, h.fr, h.pin, fun x hx => let ⟨c, a, b⟩ := h.one x hx; ⟨c, a, hA _ b⟩, fun x hx => let ⟨d, a, b⟩ := h.two x hx; ⟨d, a, hA _ b⟩, h.rise⟩
def fA (A : List (Nat × Nat)) (c : Nat) : Nat := ((A.find? fun x => decide (x.1 = c)).map (·.2)).getD 0
theorem fA_mem {A : List (Nat × Nat)} (nd : (A.map (·.1)).Nodup) {x : Nat × Nat} (hx : x ∈ A) : fA A x.1 = x.2 := by
  induction A with
  | nil => cases hx
  | cons y r ih =>
    rw [List.map_cons, List.nodup_cons] at nd
    unfold fA
    rw [List.find?_cons]
    by_cases q : y.1 = x.1
    · rw [decide_eq_true q]
      rcases List.mem_cons.1 hx with e | e
      · rw [e]; rfl
      · exact absurd (List.mem_map.2 ⟨x, e, q.symm⟩) nd.1
    · rw [decide_eq_false q]
      rcases List.mem_cons.1 hx with e | e
      · exact absurd (by rw [e]) q
      · exact ih nd.2 e
theorem copy_iso {S T : MS} {A : List (Nat × Nat)} (WS : Wf S) (nd : T.vols.Pairwise fun a b => a.id < b.id) (ek : T.k = S.k) (hA : (A.map (·.1)).Nodup) (inj : ∀ x ∈ A, ∀ y ∈ A, x.2 = y.2 → x.1 = y.1)
    (sec : ∀ x ∈ A, T.sec x.2 = S.sec x.1) (h1 : ∀ u ∈ T.vols, ∃ v ∈ S.vols, CpV A v u) (h2 : ∀ v ∈ S.vols, ∃ u ∈ T.vols, CpV A v u) : Iso S T (fA A) ∧ Wf T := by
  have key : ∀ v ∈ S.vols, ∀ u, CpV A v u → stripV u = renV (fA A) v := fun v hv u h => by
    have hp : u.pl = renL (fA A) v.pl := by
      refine sorted_eq (fun x : Int × Nat => x.1) h.rise ?_ (fun x => ?_)
      · unfold renL
        exact List.pairwise_map.2 (WS.rise v hv)
      · unfold renL
        rw [List.mem_map]
        constructor
        · intro hx
          obtain ⟨c, a, b⟩ := h.one x hx
          exact ⟨(x.1, c), a, by dsimp only; rw [fA_mem hA b]⟩
        · rintro ⟨y, hy, rfl⟩
          obtain ⟨d, a, b⟩ := h.two y hy
          rw [fA_mem hA b]; exact a
    unfold stripV renV
    rw [h.id, h.size, h.fr, h.pin, hp]
  have live : ∀ c, 0 < cnt S.vols c → (c, fA A c) ∈ A := fun c hc => by
    obtain ⟨v, hv, x, hx, rfl⟩ := cnt_pos.1 hc
    obtain ⟨u, _, hu⟩ := h2 v hv
    obtain ⟨d, _, b⟩ := hu.two x hx
    have := fA_mem hA b
    dsimp only at this
    rw [this]; exact b
  refine ⟨⟨ek, ?_, fun c d hc hd e => ?_, fun c hc => sec _ (live c hc)⟩, nd, fun u hu => ?_⟩
  · refine sorted_eq (fun x : Int × Int × Int × Bool × List (Int × Nat) => x.1) (List.pairwise_map.2 nd) (List.pairwise_map.2 WS.nd) (fun x => ?_)
    rw [List.mem_map, List.mem_map]
    constructor
    · rintro ⟨u, hu, rfl⟩
      obtain ⟨v, hv, h⟩ := h1 u hu
      exact ⟨v, hv, (key v hv u h).symm⟩
    · rintro ⟨v, hv, rfl⟩
      obtain ⟨u, hu, h⟩ := h2 v hv
      exact ⟨u, hu, key v hv u h⟩
  · exact inj _ (live c hc) _ (live d hd) e
  · obtain ⟨v, hv, h⟩ := h1 u hu
    exact h.rise
/-- A copy's counts are right. -/
theorem copy_owners {S T : MS} {f : Nat → Nat} (I : Iso S T f) {ow ow2 : Nat → Int} (h : ∀ c, 0 < cnt S.vols c → ow c = (cnt S.vols c : Int)) (h2 : ∀ c, 0 < cnt S.vols c → ow2 (f c) = ow c) (d : Nat) (hd : 0 < cnt T.vols d) : ow2 d = (cnt T.vols d : Int) := by
  obtain ⟨c, hc, rfl⟩ := cnt_strip_no I.vols hd
  rw [h2 c hc, h c hc, I.cnt hc]
end Go.Proofs.YtlcepoagpocadaaGreatDoor
