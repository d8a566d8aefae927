import Derived.Test.YtlcepoagpocadaaGreatDoorMgK
set_option linter.unusedSimpArgs false
set_option linter.unusedVariables false
set_option maxRecDepth 100000
/- What is told of places: the pairs (a place's chunk, its told sectors), and the map that holds them. -/
namespace Go.Proofs.YtlcepoagpocadaaGreatDoor
open Go Go.RowKit
abbrev Pr := Option Nat × List (List UInt8)
def tellV (k : Nat) (v : Vo) (t : List UInt8) (n : Nat) : List Pr := (List.range n).map fun (p : Nat) => (getL (p : Int) v.pl, toldL k t p)
def tellA (k : Nat) (l : List (Vo × List UInt8)) : List Pr := l.flatMap fun x => tellV k x.1 x.2 x.1.size.toNat
structure FitP (pre : List Pr) : Prop where
  zero : ∀ s, (none, s) ∈ pre → s.all (fun x => x == zero16) = true
  one : ∀ c s s', (some c, s) ∈ pre → (some c, s') ∈ pre → s = s'
theorem FitP.nil : FitP [] := ⟨by simp, by simp⟩
theorem FitP.left {a b : List Pr} (h : FitP (a ++ b)) : FitP a := ⟨fun s hs => h.zero s (by simp [hs]), fun c s s' h1 h2 => h.one c s s' (by simp [h1]) (by simp [h2])⟩
theorem tellV_succ (k : Nat) (v : Vo) (t : List UInt8) (n : Nat) : tellV k v t (n + 1) = tellV k v t n ++ [(getL (n : Int) v.pl, toldL k t n)] := by
  unfold tellV
  rw [List.range_succ, List.map_append]
  rfl
theorem tellA_take {k i : Nat} {l : List (Vo × List UInt8)} {x : Vo × List UInt8} (h : l[i]? = some x) : tellA k (l.take (i + 1)) = tellA k (l.take i) ++ tellV k x.1 x.2 x.1.size.toNat := by
  obtain ⟨h1, h2⟩ := List.getElem?_eq_some_iff.1 h
  unfold tellA
  rw [List.take_succ_eq_append_getElem h1, h2, List.flatMap_append]
  simp
structure TM (w : World) (mb base k : Nat) (pre : List Pr) (L : List (Option Nat × Value)) : Prop where
  pm : PM w mb L
  row : ∀ x ∈ L, ∃ s g cap, (x.1, s) ∈ pre ∧ x.2 = .slice (some ⟨g, 0, none⟩) k cap ∧ s.length = k ∧ RowV w g k (txF s) ∧ base ≤ g ∧ g ≠ mb
  all : ∀ y ∈ pre, ∃ v, (y.1, v) ∈ L
  fit : FitP pre
  inj : ∀ x ∈ L, ∀ y ∈ L, ∀ g c1 c2, x.2 = .slice (some ⟨g, 0, none⟩) k c1 → y.2 = .slice (some ⟨g, 0, none⟩) k c2 → x.1 = y.1
theorem TM.start {w : World} {base k : Nat} : TM (w.alloc (.map #[] 0)) w.heap.size base k [] [] := ⟨PM.made w, by simp, by simp, FitP.nil, by simp⟩
theorem TM.same {w w' : World} {mb base k : Nat} {pre : List Pr} {L : List (Option Nat × Value)} (h : TM w mb base k pre L) (M : Same w w') : TM w' mb base k pre L :=
  ⟨h.pm.mod M (fun q => q), fun x hx => let ⟨s, g, cap, a, b, c, d, e⟩ := h.row x hx; ⟨s, g, cap, a, b, c, d.mod M (fun q => q), e⟩, h.all, h.fit, h.inj⟩
section
variable {w : World} {mb base k : Nat} {pre : List Pr} {L : List (Option Nat × Value)}
/-- A look-up, with the word whether it is there. -/
theorem TM.look (h : TM w mb base k pre L) (F : Nat → Array Value) (hB : ∀ x, F x ≠ #[] → Blk w x (F x)) {q : Option Nat} (hq : ∀ c, q = some c → F c ≠ #[]) (hL : ∀ y ∈ pre, ∀ c, y.1 = some c → F c ≠ #[]) :
    (∃ s g cap, (q, s) ∈ pre ∧ s.length = k ∧ RowV w g k (txF s) ∧ (Instr.lookup 167 (.map (some mb)) (pk q) true).run Tryz.prog w = .ok (.tuple #[.slice (some ⟨g, 0, none⟩) k cap, .bool true]) w) ∨
    ((∀ y ∈ pre, y.1 ≠ q) ∧ (Instr.lookup 167 (.map (some mb)) (pk q) true).run Tryz.prog w = .ok (.tuple #[.slice none 0 0, .bool false]) w) := by
  obtain ⟨i, hi, hsz⟩ := info125
  have hl := h.pm.look (t := 167) Tryz.underlying167 Tryz.underlying123 hi hsz (z := .slice none 0 0) rfl F hB hq (fun x hx c hc => by
    obtain ⟨s, g, cap, a, _⟩ := h.row x hx
    exact hL _ a c hc) true
  by_cases hx : ∃ x ∈ L, x.1 = q
  · obtain ⟨x, hx, rfl⟩ := hx
    obtain ⟨s, g, cap, a, b, c, d, e⟩ := h.row x hx
    refine .inl ⟨s, g, cap, a, c, d, ?_⟩
    have := hl.1 x.2 hx
    rw [if_pos rfl, b] at this
    exact this
  · refine .inr ⟨fun y hy e => ?_, ?_⟩
    · obtain ⟨v, hv⟩ := h.all y hy
      exact hx ⟨_, hv, e⟩
    · have := hl.2 (fun x hx' e => hx ⟨x, hx', e⟩)
      rw [if_pos rfl] at this
      exact this
/-- A store. -/
theorem TM.put (h : TM w mb base k pre L) (F : Nat → Array Value) (hB : ∀ x, F x ≠ #[] → Blk w x (F x)) {q : Option Nat} (hq : ∀ c, q = some c → F c ≠ #[]) (hL : ∀ y ∈ pre, ∀ c, y.1 = some c → F c ≠ #[])
    {s : List (List UInt8)} {g cap : Nat} (hr : RowV w g k (txF s)) (hs : s.length = k) (hg : base ≤ g) (hne : g ≠ mb) (hf : FitP (pre ++ [(q, s)])) (hfr : ∀ x ∈ L, ∀ c', x.2 ≠ .slice (some ⟨g, 0, none⟩) k c') :
    ∃ w' L', (Instr.mapUpdate 167 (.map (some mb)) (pk q) (.slice (some ⟨g, 0, none⟩) k cap)).run Tryz.prog w = .ok () w' ∧ TM w' mb base k (pre ++ [(q, s)]) L' ∧ Mod (fun i => i = mb) w w' := by
  obtain ⟨i, hi, hsz⟩ := info125
  obtain ⟨w', L', h1, h2, h3, h4⟩ := h.pm.put (t := 167) Tryz.underlying167 Tryz.underlying123 hi hsz F hB hq (fun x hx c hc => by
    obtain ⟨s, g, cap, a, _⟩ := h.row x hx
    exact hL _ a c hc) (.slice (some ⟨g, 0, none⟩) k cap)
  refine ⟨w', L', h1, ⟨h2, fun x hx => ?_, fun y hy => ?_, hf, fun x hx y hy g' c1 c2 e1 e2 => ?_⟩, h4⟩
  · rcases (h3 x).1 hx with rfl | ⟨hx, hne2⟩
    · exact ⟨s, g, cap, by simp, rfl, hs, hr.mod h4 hne, hg, hne⟩
    · obtain ⟨s, g, cap, a, b, c, d, e1, e2⟩ := h.row x hx
      exact ⟨s, g, cap, by simp [a], b, c, d.mod h4 e2, e1, e2⟩
  · rcases List.mem_append.1 hy with hy | hy
    · by_cases e : y.1 = q
      · exact ⟨_, (h3 _).2 (.inl (by rw [e]))⟩
      · obtain ⟨v, hv⟩ := h.all y hy
        exact ⟨v, (h3 _).2 (.inr ⟨hv, e⟩)⟩
    · rw [List.mem_singleton.1 hy]
      exact ⟨_, (h3 _).2 (.inl rfl)⟩
  · rcases (h3 x).1 hx with rfl | ⟨hx, _⟩ <;> rcases (h3 y).1 hy with rfl | ⟨hy, _⟩
    · rfl
    · cases e1
      exact absurd e2 (hfr y hy c2)
    · cases e2
      exact absurd e1 (hfr x hx c1)
    · exact h.inj x hx y hy g' c1 c2 e1 e2
end
end Go.Proofs.YtlcepoagpocadaaGreatDoor
