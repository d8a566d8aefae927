import Derived.Test.YtdengmlidckkeaaGreatDoorOrdH
set_option linter.unusedSimpArgs false
set_option linter.unusedVariables false
namespace Go.Proofs.YtdengmlidckkeaaGreatDoor
open Go Go.RowKit
theorem digit48 (k : Nat) (h : k < 10) : (UInt8.ofNat (48 + k)).toNat = 48 + k := by rw [UInt8.toNat_ofNat', Nat.mod_eq_of_lt (by omega)]
theorem dec_digits : ∀ u, digitsOnly (Lib.decDigits u) = true ∧ asc (Lib.decDigits u) = true := by
  intro u
  induction u using Nat.strongRecOn with
  | _ u ih =>
    rw [Lib.decDigits]
    split
    · rename_i h
      constructor
      · simp only [digitsOnly, List.all_cons, List.all_nil, isDigit, digit48 u h]; simp; omega
      · simp only [asc, List.all_cons, List.all_nil, digit48 u h]; simp; omega
    · rename_i h
      obtain ⟨h1, h2⟩ := ih (u / 10) (by omega)
      constructor
      · unfold digitsOnly at h1 ⊢
        rw [List.all_append, h1]
        simp only [List.all_cons, List.all_nil, isDigit, digit48 (u % 10) (by omega)]; simp; omega
      · rw [asc_app, h2]
        simp only [asc, List.all_cons, List.all_nil, digit48 (u % 10) (by omega)]; simp; omega
theorem dec_val : ∀ u, u < 18446744073709551616 → valFrom 0 (Lib.decDigits u) = (u : Int) := by
  intro u
  induction u using Nat.strongRecOn with
  | _ u ih =>
    intro hu
    rw [Lib.decDigits]
    split
    · rename_i h
      simp only [valFrom, digit48 u h]
      rw [wraps_u64 (0 * 10) (by omega) (by omega), wraps_u64 _ (by omega) (by omega)]; omega
    · rename_i h
      rw [valFrom_snoc, ih (u / 10) (by omega) (by omega), digit48 (u % 10) (by omega)]
      rw [wraps_u64 (((u / 10 : Nat) : Int) * 10) (by omega) (by omega), wraps_u64 _ (by omega) (by omega)]; omega
theorem parse_app (a b : List UInt8) : ∀ acc, Lib.parseUint10 acc (a ++ b) = match Lib.parseUint10 acc a with | .ok v => Lib.parseUint10 v b | e => e := by
  induction a with
  | nil => intro acc; rfl
  | cons c r ih =>
    intro acc
    simp only [List.cons_append, Lib.parseUint10]
    split
    · split
      · rfl
      · split
        · rfl
        · exact ih _
    · rfl
theorem dec_parse : ∀ u, u < 18446744073709551616 → Lib.parseUint10 0 (Lib.decDigits u) = .ok u := by
  intro u
  induction u using Nat.strongRecOn with
  | _ u ih =>
    intro hu
    rw [Lib.decDigits]
    split
    · rename_i h
      simp only [Lib.parseUint10, digit48 u h]
      rw [if_pos ⟨by omega, by omega⟩, if_neg (by omega), if_neg (by omega)]
      congr 1; omega
    · rename_i h
      rw [parse_app, ih (u / 10) (by omega) (by omega)]
      simp only [Lib.parseUint10, digit48 (u % 10) (by omega)]
      rw [if_pos ⟨by omega, by omega⟩, if_neg (by omega), if_neg (by omega)]
      congr 1; omega
theorem dec_len : ∀ (k u : Nat), u < 10 ^ (k + 1) → (Lib.decDigits u).length ≤ k + 1 := by
  intro k
  induction k with
  | zero => intro u h; rw [Lib.decDigits, dif_pos (by simpa using h)]; simp
  | succ k ih =>
    intro u h
    rw [Lib.decDigits]
    split
    · simp
    · have := ih (u / 10) (by rw [Nat.pow_succ] at h; omega)
      rw [List.length_append]; simp; omega
theorem dec_ne (u : Nat) : Lib.decDigits u ≠ [] := by rw [Lib.decDigits]; split <;> simp
theorem dec_head (u : Nat) : ∃ c r, Lib.decDigits u = c :: r ∧ 48 ≤ c.toNat ∧ c.toNat ≤ 57 := by
  obtain ⟨c, r, h⟩ := List.exists_cons_of_ne_nil (dec_ne u)
  have hd := (dec_digits u).1
  rw [h] at hd
  simp only [digitsOnly, List.all_cons, isDigit, Bool.and_eq_true, decide_eq_true_eq] at hd
  exact ⟨c, r, h, hd.1.1, hd.1.2⟩
theorem itoa_neg (n : Int) (h : n < 0) : Lib.itoa n = 45 :: Lib.decDigits n.natAbs := if_pos h
theorem itoa_pos (n : Int) (h : ¬ n < 0) : Lib.itoa n = Lib.decDigits n.toNat := if_neg h
theorem itoa_asc (n : Int) : asc (Lib.itoa n) = true := by
  by_cases h : n < 0
  · rw [itoa_neg n h, asc_cons, (dec_digits _).2]; rfl
  · rw [itoa_pos n h, (dec_digits _).2]
theorem mag_dec (u : Nat) (hu : u < 18446744073709551616) : Lib.parseMag (Lib.decDigits u) = .ok u := by
  unfold Lib.parseMag; rw [if_neg (dec_ne u), dec_parse u hu]
theorem atoi_itoa (n : Int) (hn : I64 n) : Lib.atoiAll (Lib.itoa n) = .ok n := by
  unfold I64 at hn
  by_cases h : n < 0
  · rw [itoa_neg n h, Lib.atoiAll_minus, mag_dec _ (by omega)]
    unfold Lib.signed
    simp only
    rw [if_neg (by omega)]
    congr 1; omega
  · rw [itoa_pos n h]
    obtain ⟨c, r, e, h1, h2⟩ := dec_head n.toNat
    have hm := mag_dec n.toNat (by omega)
    rw [e] at hm ⊢
    rw [Lib.atoiAll_plain c r (by omega) (by omega), hm]
    unfold Lib.signless
    simp only
    rw [if_neg (by omega)]
    congr 1; omega
theorem ref_itoa (n : Int) (hn : I64 n) : refNum (Lib.itoa n) = (n, true) := by
  unfold I64 at hn
  by_cases h : n < 0
  · have hb : bare (Lib.itoa n) = Lib.decDigits n.natAbs := by rw [itoa_neg n h]; rfl
    have hv := dec_val n.natAbs (by omega)
    have hs : signed (Lib.itoa n) (valFrom 0 (bare (Lib.itoa n))) = n := by
      rw [hb, hv, itoa_neg n h]
      show IntKind.i64.wrap (IntKind.u64.wrap (-(n.natAbs : Int))) = n
      have e : -(n.natAbs : Int) = n := by omega
      rw [e]
      unfold IntKind.wrap; simp [IntKind.signed, IntKind.bits]; omega
    rw [refNum_good _ (by
      rw [hb]; intro q
      rcases q with q | q | q
      · exact dec_ne _ q
      · have := dec_len 18 n.natAbs (by have : (10 : Nat) ^ 19 = 10000000000000000000 := by decide
                                        omega); omega
      · rw [(dec_digits _).1] at q; cases q), hs, if_pos rfl]
  · obtain ⟨c, r, e, h1, h2⟩ := dec_head n.toNat
    have hh : (Lib.itoa n).head? ≠ some 45 := by
      rw [itoa_pos n h, e]; intro q
      have : c = 45 := by simpa using q
      rw [this] at h1; exact absurd h1 (by decide)
    have hb : bare (Lib.itoa n) = Lib.decDigits n.toNat := by unfold bare; rw [if_neg hh, itoa_pos n h]
    have hv := dec_val n.toNat (by omega)
    have hs : signed (Lib.itoa n) (valFrom 0 (bare (Lib.itoa n))) = n := by
      rw [hb, hv]; unfold signed; rw [if_neg hh]
      have e : ((n.toNat : Nat) : Int) = n := by omega
      rw [e]; exact IntWalk.i64_in _ (by omega)
    rw [refNum_good _ (by
      rw [hb]; intro q
      rcases q with q | q | q
      · exact dec_ne _ q
      · have := dec_len 18 n.toNat (by have : (10 : Nat) ^ 19 = 10000000000000000000 := by decide
                                       omega); omega
      · rw [(dec_digits _).1] at q; cases q), hs, if_pos rfl]
/-- The program's number of a text is the document's. -/
theorem number_same (l : List UInt8) : numberL ⟨l.toArray⟩ = refNum (plainL l) := by
  have hsz := bytes_size l
  have hT : (asc (thinL ⟨l.toArray⟩) = true ∨ asc (plainL l) = true) → thinL ⟨l.toArray⟩ = plainL l := by
    intro h
    have := thin_plain l l.length 0 (by omega)
    unfold thinL at h ⊢
    rw [hsz] at h ⊢
    rw [List.drop_zero] at this
    exact this h
  by_cases hc : ∃ n, I64 n ∧ (Lib.itoa n = thinL ⟨l.toArray⟩ ∨ Lib.itoa n = plainL l)
  · obtain ⟨n, hn, h⟩ := hc
    have he : thinL ⟨l.toArray⟩ = plainL l := by
      apply hT
      rcases h with h | h
      · left; rw [← h]; exact itoa_asc n
      · right; rw [← h]; exact itoa_asc n
    have h2 : Lib.itoa n = plainL l := by rcases h with h | h; rw [h, he]; exact h
    unfold numberL
    rw [he, ← h2, atoi_itoa n hn, ref_itoa n hn]
    simp
  · have h1 : numberL ⟨l.toArray⟩ = (0, false) := by
      unfold numberL
      split
      · rename_i n hat
        rw [if_neg (fun q => hc ⟨n, Lib.atoiAll_bounds hat, .inl q⟩)]
      · rfl
    rw [h1]
    by_cases hb : bare (plainL l) = [] ∨ 19 < (bare (plainL l)).length ∨ digitsOnly (bare (plainL l)) = false
    · rw [refNum_bad _ hb]
    · rw [refNum_good _ hb, if_neg (fun q => hc ⟨_, by unfold signed; split <;> exact i64_any _, .inr q⟩)]
end Go.Proofs.YtdengmlidckkeaaGreatDoor
