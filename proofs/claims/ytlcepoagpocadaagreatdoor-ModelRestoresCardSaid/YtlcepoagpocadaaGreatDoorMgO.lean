import Derived.Test.YtlcepoagpocadaaGreatDoorMgN
import Derived.Laws.IdiomRangeMap
set_option linter.unusedSimpArgs false
set_option linter.unusedVariables false
set_option maxRecDepth 100000
/- Restore. -/
namespace Go.Proofs.YtlcepoagpocadaaGreatDoor
open Go Go.RowKit
theorem PR.left_eq {w : World} {b r : Nat} {L left : List (Option Nat × Value)} (h : PR w b r L left) : w.rangeLeft b r = left.length := by
  obtain ⟨es, cl, seen, h1, h2, h3, h4, h5, h6, h7⟩ := h
  unfold World.rangeLeft
  rw [h1, h2]
  have := congrArg List.length h7
  simpa using this
structure RL (K : Nat → Prop) (m mb r : Nat) (S : MS) (A : List Pr) (L : List (Option Nat × Value)) (w : World) (left : List (Option Nat × Value)) (Kt : Nat → Prop) (sec : Nat → List (List UInt8)) : Prop where
  pr : PR w mb r L left
  md : Md Tryz.prog Kt w m { S with sec := sec }
  sub : ∀ i, K i → Kt i
  kb : Kt mb
  kr : Kt r
  row : ∀ x ∈ left, ∃ s g cap, (x.1, s) ∈ A ∧ x.2 = .slice (some ⟨g, 0, none⟩) S.k cap ∧ s.length = S.k ∧ RowV w g S.k (txF s) ∧ Kt g ∧ g ≠ mb ∧ g ≠ r ∧ ¬ K g
  inj : ∀ x ∈ left, ∀ y ∈ left, ∀ g c1 c2, x.2 = .slice (some ⟨g, 0, none⟩) S.k c1 → y.2 = .slice (some ⟨g, 0, none⟩) S.k c2 → x.1 = y.1
  done : ∀ v ∈ S.vols, ∀ y ∈ v.pl, (some y.2, sec y.2) ∈ A ∨ ∃ x ∈ left, x.1 = some y.2
section
variable {K : Nat → Prop} {m mb r : Nat} {S : MS} {A : List Pr} {L left left' : List (Option Nat × Value)} {w w' : World} {Kt : Nat → Prop} {sec : Nat → List (List UInt8)} {x : Option Nat × Value}
/-- 'next'. -/
theorem RL.skip (h : RL K m mb r S A L w left Kt sec) (hn : x.1 = none) (hp : PR w' mb r L left') (hl : ∀ y, y ∈ left' ↔ y ∈ left ∧ y.1 ≠ x.1) (M : Mod (fun i => i = r) w w') : RL K m mb r S A L w' left' Kt sec := by
  refine ⟨hp, h.md.mod M (fun b _ e => by rw [e]; exact h.kr), h.sub, h.kb, h.kr, fun y hy => ?_, fun y hy z hz => h.inj y ((hl y).1 hy).1 z ((hl z).1 hz).1, fun v hv y hy => ?_⟩
  · obtain ⟨s, g, cap, a, b, c, d, e, f, f2, f3⟩ := h.row y ((hl y).1 hy).1
    exact ⟨s, g, cap, a, b, c, d.mod M f2, e, f, f2, f3⟩
  · rcases h.done v hv y hy with q | ⟨z, hz, e⟩
    · exact .inl q
    · exact .inr ⟨z, (hl z).2 ⟨hz, by rw [e, hn]; simp⟩, e⟩
/-- 'next' and the store. -/
theorem RL.put (h : RL K m mb r S A L w left Kt sec) {c : Nat} (hx : x ∈ left) (hn : x.1 = some c) (hp : PR w' mb r L left') (hl : ∀ y, y ∈ left' ↔ y ∈ left ∧ y.1 ≠ x.1) (M : Mod (fun i => i = r) w w') (hlive : ∃ v ∈ S.vols, ∃ y ∈ v.pl, y.2 = c) (hlt : ∀ i, K i → i < w.heap.size) :
    ∃ g cap u0 u1, x.2 = .slice (some ⟨g, 0, none⟩) S.k cap ∧ Blk w' c #[u0, u1] ∧ Mod (fun i => ¬ K i) w' (w'.setCell ⟨c, 0, none⟩ x.2) ∧ ∃ Kt' sec', RL K m mb r S A L (w'.setCell ⟨c, 0, none⟩ x.2) left' Kt' sec' := by
  obtain ⟨s, g, cap, a, b, e1, e2, e3, e4, e5, e6⟩ := h.row x hx
  have hmd := h.md.mod M (fun b _ e => by rw [e]; exact h.kr)
  obtain ⟨v, hv, y, hy, rfl⟩ := hlive
  obtain ⟨hm2, M2⟩ := hmd.resect (S := { S with sec := sec }) hv hy (g2 := g) (cap2 := cap) (xs := s) (e2.mod M e5) e1 e3
  obtain ⟨ow, hme, _⟩ := hmd
  obtain ⟨g0, cap0, hb, _⟩ := hme.ch hv hy
  refine ⟨g, cap, _, _, b, hb, ?_, fun i => Kt i ∧ i ≠ g, upd sec y.2 s, ?_⟩
  · rw [b]
    exact M2.mono (fun i _ q hk => q (h.sub i hk))
  · rw [b]
    refine ⟨hp.mod M2 (fun q => q h.kb) (fun q => q h.kr), hm2, fun i hi => ⟨h.sub i hi, fun e => e6 (e ▸ hi)⟩, ⟨h.kb, fun e => e4 e.symm⟩, ⟨h.kr, fun e => e5 e.symm⟩, fun z hz => ?_, fun y hy z hz => h.inj y ((hl y).1 hy).1 z ((hl z).1 hz).1, fun v2 hv2 y2 hy2 => ?_⟩
    · obtain ⟨s2, g2, cap2, a2, b2, f1, f2, f3, f4, f5, f6⟩ := h.row z ((hl z).1 hz).1
      refine ⟨s2, g2, cap2, a2, b2, f1, (f2.mod M f5).mod M2 (fun q => q f3), ⟨f3, fun e => ?_⟩, f4, f5, f6⟩
      subst e
      exact ((hl z).1 hz).2 (h.inj z ((hl z).1 hz).1 x hx _ _ _ b2 b)
    · by_cases q : y2.2 = y.2
      · left
        rw [q, upd_same, ← hn]
        exact a
      · rcases h.done v2 hv2 y2 hy2 with q2 | ⟨z, hz, e⟩
        · left
          rw [upd_ne _ _ q]
          exact q2
        · right
          refine ⟨z, (hl z).2 ⟨hz, ?_⟩, e⟩
          rw [e, hn]
          intro q3
          injection q3 with q3
          exact q q3
end
end Go.Proofs.YtlcepoagpocadaaGreatDoor
