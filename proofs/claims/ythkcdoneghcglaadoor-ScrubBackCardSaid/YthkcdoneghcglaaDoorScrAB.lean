import Derived.Test.YthkcdoneghcglaaDoorScrF
import Derived.Test.YthkcdoneghcglaaDoorScrQ
import Derived.Test.YthkcdoneghcglaaDoorScrU
set_option linter.unusedSimpArgs false
set_option linter.unusedVariables false
/- The document's Parse of sums. -/
namespace Go.Proofs.YthkcdoneghcglaaDoor
open Go Go.RowKit
theorem rLine_len {l : List UInt8} (h : (spl l).length ≠ 4) : rLine l = none := by
  unfold rLine
  split
  · rename_i a b c d e; rw [e] at h; exact absurd rfl h
  · rfl
theorem rLine_hex {l : List UInt8} {a b c d : List UInt8} (e : spl l = [a, b, c, d]) (hn : hexV d = none) : rLine l = none := by
  unfold rLine
  rw [e]
  dsimp only
  rw [hn]; split <;> rfl
theorem rLine_no {l : List UInt8} {a b c d : List UInt8} (e : spl l = [a, b, c, d]) (h : ¬ ((rNum a).2 = true ∧ (rNum b).2 = true ∧ (rNum c).2 = true)) : rLine l = none := by
  unfold rLine
  rw [e]
  dsimp only
  rw [if_neg h]
theorem rLine_all {l : List UInt8} {a b c d : List UInt8} {h : Nat} (e : spl l = [a, b, c, d]) (h0 : (rNum a).2 = true) (h1 : (rNum b).2 = true) (h2 : (rNum c).2 = true) (h3 : hexV d = some h) : rLine l = some ⟨(rNum a).1, (rNum b).1, (rNum c).1, h⟩ := by
  unfold rLine
  rw [e]
  dsimp only
  rw [if_pos ⟨h0, h1, h2⟩, h3]
theorem nl_drop (S : List UInt8) (fr : Nat) : ∀ (i : Nat), fr ≤ i → (∀ j, fr ≤ j → j < i → S[j]? ≠ some 10) → S[i]? = some 10 → nl (S.drop fr) = some (seg S fr i, S.drop (i + 1)) := by
  intro i hi hno hx
  have hlt : i < S.length := (List.getElem?_eq_some_iff.1 hx).1
  have e : S.drop fr = seg S fr i ++ 10 :: S.drop (i + 1) := by
    have h1 : (S.drop fr).drop (i - fr) = S.drop i := by rw [List.drop_drop]; congr 1; omega
    have h2 : S.drop i = 10 :: S.drop (i + 1) := drop_at hx
    conv => lhs; rw [← List.take_append_drop (i - fr) (S.drop fr)]
    rw [h1, h2]; rfl
  rw [e]
  refine nl_app _ _ fun c hc => ?_
  unfold seg at hc
  obtain ⟨j, hj⟩ := List.mem_iff_getElem?.1 hc
  rw [List.getElem?_take] at hj
  split at hj
  · rename_i hji
    rw [List.getElem?_drop] at hj
    intro e10
    subst e10
    exact hno (fr + j) (by omega) (by omega) hj
  · cases hj
theorem nl_drop_none (S : List UInt8) (fr : Nat) (hno : ∀ j, fr ≤ j → j < S.length → S[j]? ≠ some 10) : nl (S.drop fr) = none := by
  refine nl_none _ fun c hc => ?_
  obtain ⟨j, hj⟩ := List.mem_iff_getElem?.1 hc
  rw [List.getElem?_drop] at hj
  intro e10
  subst e10
  exact hno (fr + j) (by omega) (List.getElem?_eq_some_iff.1 hj).1 hj
theorem owns_mod {S : Nat → Prop} {w w' : World} {base size n : Nat} {e : TypeId} {v : Value} {xs : List Value} (h : w.ownsRow base e size v n xs) (M : Mod S w w') (hS : ∀ k, S k → w.heap.size ≤ k ∨ k < base) : w'.ownsRow base e size v n xs := by
  obtain ⟨hl, h0 | ⟨g, cap, cur, hv, hb, hh, r⟩⟩ := h
  · exact ⟨hl, .inl h0⟩
  · have hlt : g < w.heap.size := by
      rcases Nat.lt_or_ge g w.heap.size with q | q
      · exact q
      · rw [Array.getElem?_eq_none q] at hh; cases hh
    exact ⟨hl, .inr ⟨g, cap, cur, hv, hb, (M.block g hlt (fun q => by have := hS g q; omega)).trans hh, r⟩⟩
def hexLi : List UInt8 := [48, 49, 50, 51, 52, 53, 54, 55, 56, 57, 97, 98, 99, 100, 101, 102]
theorem hexLi_at (j : Nat) (hj : j < 16) : hexLi[j]? = some (hexC j) := (show ∀ d : Fin 16, hexLi[d.1]? = some (hexC d.1) by decide +kernel) ⟨j, hj⟩
theorem hexC_eq (c : UInt8) (j : Nat) (hj : j < 16) : hexC j = c ↔ isHex c = true ∧ hexD c = j := by
  constructor
  · rintro rfl; exact ⟨isHex_C j hj, hexD_C j hj⟩
  · rintro ⟨h, rfl⟩; exact hexC_D c h
/-- The digit that has been found among the first j. -/
def dig (c : UInt8) (j : Nat) : Nat := if isHex c = true ∧ hexD c < j then hexD c else 16
theorem dig_hit (c : UInt8) (j : Nat) (hj : j < 16) (h : hexC j = c) : dig c (j + 1) = j := by
  obtain ⟨h1, h2⟩ := (hexC_eq c j hj).1 h
  unfold dig; rw [if_pos ⟨h1, by omega⟩, h2]
theorem dig_miss (c : UInt8) (j : Nat) (hj : j < 16) (h : hexC j ≠ c) : dig c (j + 1) = dig c j := by
  unfold dig
  by_cases q : isHex c = true ∧ hexD c < j
  · rw [if_pos q, if_pos ⟨q.1, by omega⟩]
  · rw [if_neg q, if_neg]
    rintro ⟨h1, h2⟩
    by_cases e : hexD c = j
    · exact h ((hexC_eq c j hj).2 ⟨h1, e⟩)
    · exact q ⟨h1, by omega⟩
theorem dig_all (c : UInt8) : (isHex c = true ∧ dig c 16 = hexD c ∧ hexD c < 16) ∨ (isHex c = false ∧ dig c 16 = 16) := by
  unfold dig
  cases h : isHex c with
  | true => left; have := hexD_lt c h; exact ⟨rfl, if_pos ⟨rfl, this⟩, this⟩
  | false => right; exact ⟨rfl, if_neg (by simp)⟩
/-- What the document's Parse hands back. -/
def PaR (o : Option (List Sm)) (e : Ending) (w' : World) : Prop := match o with
  | some L => ∃ a c, e = .returned (.tuple #[.slice a L.length c, .bool true]) ∧ Sms w' a L
  | none => ∃ v, e = .returned (.tuple #[v, .bool false])
theorem pars_none {f : List UInt8 → Option Sm} {k : Nat} {s a r : List UInt8} {L : List Sm} {o : Option (List Sm)} (h : (pars f k s).map (L ++ ·) = o) (hk : s.length ≤ k) (hn : nl s = some (a, r)) (hf : f a = none) : o = none := by
  rw [pars_bad f k hk hn hf] at h; exact h.symm
end Go.Proofs.YthkcdoneghcglaaDoor
