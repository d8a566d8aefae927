import Derived.Test.YtdengmlidckkeaaGreatDoorOrdV
set_option linter.unusedSimpArgs false
set_option linter.unusedVariables false
namespace Go.Proofs.YtdengmlidckkeaaGreatDoor
open Go Go.RowKit
/-- A digit, as it is told: wide or not. -/
def wcP (p : Bool × UInt8) : List UInt8 := if p.1 then [239, 188, 144 + p.2 - 48] else [p.2]
def wcOK (p : Bool × UInt8) : Prop := p.2.toNat < 128 ∧ p.2 ≠ 32 ∧ (p.1 = true → 48 ≤ p.2.toNat ∧ p.2.toNat ≤ 57)
theorem wide_val (c : UInt8) (h1 : 48 ≤ c.toNat) (h2 : c.toNat ≤ 57) : (144 + c - 48).toNat = 96 + c.toNat := by
  rw [UInt8.toNat_sub_of_le, UInt8.toNat_add]
  · simp; omega
  · rw [UInt8.le_iff_toNat_le, UInt8.toNat_add]; simp; omega
theorem plain_pieces : ∀ ps : List (Bool × UInt8), (∀ p ∈ ps, wcOK p) → plainL (ps.flatMap wcP) = ps.map Prod.snd
  | [], _ => rfl
  | (true, c) :: r, h => by
    have hc := h (true, c) (by simp)
    obtain ⟨h1, h2⟩ := hc.2.2 rfl
    dsimp only at h1 h2
    have ih := plain_pieces r fun p hp => h p (by simp [hp])
    have hw := wide_val c h1 h2
    have hwide : isWide 239 188 (144 + c - 48) = true := (wide_iff _ _ _).2 ⟨rfl, rfl, by rw [hw]; omega, by rw [hw]; omega⟩
    have e : (48 + (144 + c - 48) - 144 : UInt8) = c := by
      apply UInt8.toNat.inj
      rw [UInt8.toNat_sub_of_le, UInt8.toNat_add, hw]
      · simp; omega
      · rw [UInt8.le_iff_toNat_le, UInt8.toNat_add, hw]; simp; omega
    show plainL (239 :: 188 :: (144 + c - 48) :: r.flatMap wcP) = c :: r.map Prod.snd
    rw [plainL, if_pos hwide, ih, e]
  | (false, c) :: r, h => by
    have hc := h (false, c) (by simp)
    have ih := plain_pieces r fun p hp => h p (by simp [hp])
    show plainL (c :: r.flatMap wcP) = c :: r.map Prod.snd
    rw [plainL_cons c _ (fun y z r' _ => by
      cases e : isWide c y z with
      | false => rfl
      | true => have := (wide_iff c y z).1 e; have h2 := hc.1; dsimp only at h2; omega), ih]
theorem pieces_nb (ps : List (Bool × UInt8)) (h : ∀ p ∈ ps, wcOK p) : ∀ c ∈ ps.flatMap wcP, c ≠ 32 := by
  intro c hc
  obtain ⟨⟨b, d⟩, hp, hm⟩ := List.mem_flatMap.1 hc
  have hk := h _ hp
  cases b with
  | false => simp only [wcP] at hm; simp at hm; subst hm; exact hk.2.1
  | true =>
    obtain ⟨h1, h2⟩ := hk.2.2 rfl
    have hw := wide_val d h1 h2
    simp only [wcP] at hm; simp at hm
    rcases hm with rfl | rfl | rfl
    · decide
    · decide
    · intro e; rw [e] at hw; simp at hw; omega
theorem pieces_len : ∀ ps : List (Bool × UInt8), (ps.flatMap wcP).length ≤ 3 * ps.length
  | [] => Nat.le_refl _
  | (b, c) :: r => by
    have := pieces_len r
    rw [List.flatMap_cons, List.length_append, List.length_cons]
    have : (wcP (b, c)).length ≤ 3 := by cases b <;> simp [wcP]
    omega
/-- The order of a tick. -/
def oT (n : Int) : OW := ⟨10, [n], []⟩
theorem oT_form (n : Int) (hn : I64 n) : (oT n).form := ⟨show 10 < 15 by decide, rfl, rfl, fun m hm => by unfold oT at hm; simp at hm; subst hm; exact hn⟩
theorem oT_text (n : Int) : textO (oT n) = [116, 105, 99, 107, 32] ++ Lib.itoa n := by
  unfold textO oT
  simp only [List.map_cons, List.map_nil, List.append_nil]
  rw [Lib.join_cons]; unfold Lib.joinTail; simp; rfl
theorem parse_tick (n : Int) (t : List UInt8) (h : num t = (n, true)) (hb : ∀ c ∈ t, c ≠ 32) : parseL ([116, 105, 99, 107, 32] ++ t) = some (oT n) := by
  have e : spl ([116, 105, 99, 107, 32] ++ t) = [wordL 10, t] := by
    show spl (wordL 10 ++ 32 :: t) = _
    rw [spl_app _ _ (word_nb 10), spl_word t hb]
  unfold parseL
  rw [e]
  unfold parseW
  simp only [rdNext]
  rw [kind_word 10 (by decide)]
  have e2 : rdKind 10 ([t], false) = (oT n, ([], false)) := by
    show ((⟨10, [(num t).1], []⟩ : OW), (([] : List (List UInt8)), false || !(num t).2)) = _
    rw [h]; rfl
  simp only [e2]; rfl
theorem itoa_ok (n : Int) (hn : I64 n) : ∀ c ∈ Lib.itoa n, c.toNat < 128 ∧ c ≠ 32 ∧ (c.toNat ≠ 45 → 48 ≤ c.toNat ∧ c.toNat ≤ 57) := by
  intro c hc
  have key : ∀ u, ∀ c ∈ Lib.decDigits u, 48 ≤ c.toNat ∧ c.toNat ≤ 57 := by
    intro u c hc
    have h := (dec_digits u).1
    unfold digitsOnly at h
    have := List.all_eq_true.1 h c hc
    unfold isDigit at this
    simpa using this
  refine ⟨?_, itoa_nb n c hc, fun h45 => ?_⟩
  · have := List.all_eq_true.1 (itoa_asc n) c hc; exact of_decide_eq_true this
  · by_cases h : n < 0
    · rw [itoa_neg n h, List.mem_cons] at hc
      rcases hc with rfl | hc
      · exact absurd rfl h45
      · exact key _ c hc
    · rw [itoa_pos n h] at hc; exact key _ c hc
theorem conv3 (w : World) (x y z : Int) : (convert 64 9 (.slice (some ⟨w.heap.size, 0, none⟩) 3 3)).run Tryz.prog (w.alloc (.cells #[.int .u8 x, .int .u8 y, .int .u8 z] 5)) = .ok (.string (strOfNums [x, y, z])) (w.alloc (.cells #[.int .u8 x, .int .u8 y, .int .u8 z] 5)) := by
  refine run_convert_bytes_arg (P := Tryz.prog) _ 64 5 Tryz.underlying64 Tryz.underlying5 w.heap.size 0 3 3 [x, y, z] rfl ?_ 9 Tryz.underlying9
  intro i hi
  have : i = 0 ∨ i = 1 ∨ i = 2 := by omega
  rcases this with rfl | rfl | rfl <;> simp
theorem ext5 (l : List UInt8) : (⟨([116, 105, 99, 107, 32] ++ l).toArray⟩ : ByteArray).extract 5 (5 + l.length) = ⟨l.toArray⟩ := by
  apply ByteArray.ext
  rw [ByteArray.data_extract]
  apply Array.ext'
  simp [Array.toList_extract, List.extract_eq_take_drop]
end Go.Proofs.YtdengmlidckkeaaGreatDoor
