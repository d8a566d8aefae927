import Derived.Test.YtdengmlidckkeaaGreatDoorOrdK
import Derived.Test.YtdengmlidckkeaaGreatDoorShelfV
import Derived.Lib.ValidLaws
set_option linter.unusedSimpArgs false
set_option linter.unusedVariables false
namespace Go.Proofs.YtdengmlidckkeaaGreatDoor
open Go Go.RowKit
/-- The j-th three bytes are the rune of a byte. -/
def tri (l : List UInt8) (j : Nat) : Prop := 3 * j + 2 < l.length ∧ (l.getD (3 * j) 0).toNat = 226 ∧ 160 ≤ (l.getD (3 * j + 1) 0).toNat ∧ (l.getD (3 * j + 1) 0).toNat ≤ 163 ∧ 128 ≤ (l.getD (3 * j + 2) 0).toNat ∧ (l.getD (3 * j + 2) 0).toNat ≤ 191
instance (l : List UInt8) (j : Nat) : Decidable (tri l j) := by unfold tri; infer_instance
set_option maxHeartbeats 2000000 in
/-- A rune of a byte, as the decoder sees it. -/
theorem triN (n b0 b1 b2 b3 : Nat) (h0 : b0 < 256) (h1 : b1 < 256) (h2 : b2 < 256) : (10240 ≤ (Lib.decodeN n b0 b1 b2 b3).1 ∧ (Lib.decodeN n b0 b1 b2 b3).1 < 10496) ↔ (2 < n ∧ b0 = 226 ∧ 160 ≤ b1 ∧ b1 ≤ 163 ∧ 128 ≤ b2 ∧ b2 ≤ 191) := by
  unfold Lib.decodeN
  repeat' split
  all_goals constructor <;> intro h <;> (try simp only at h ⊢) <;> omega
set_option maxHeartbeats 2000000 in
theorem triN_val (n b1 b2 b3 : Nat) (hn : 2 < n) (h1 : 160 ≤ b1) (h1' : b1 ≤ 163) (h2 : 128 ≤ b2) (h2' : b2 ≤ 191) : Lib.decodeN n 226 b1 b2 b3 = (10240 + (b1 - 160) * 64 + (b2 - 128), 3) := by
  unfold Lib.decodeN
  rw [if_neg (by omega), if_neg (by omega), if_pos (by omega), if_pos (by omega)]
  apply Prod.ext <;> simp only <;> omega
theorem tri_dec (l : List UInt8) (j : Nat) : (10240 ≤ (Utf8.decode ⟨l.toArray⟩ (3 * j)).1 ∧ (Utf8.decode ⟨l.toArray⟩ (3 * j)).1 < 10496) ↔ tri l j := by
  rw [Lib.decode_at, bytes_size, triN _ _ _ _ _ (UInt8.toNat_lt _) (UInt8.toNat_lt _) (UInt8.toNat_lt _), get_at', get_at', get_at']
  unfold tri
  constructor <;> intro h <;> refine ⟨by omega, ?_⟩ <;> exact h.2
theorem triB_val (y z : UInt8) (h1 : 160 ≤ y.toNat) (h1' : y.toNat ≤ 163) (h2 : 128 ≤ z.toNat) (h2' : z.toNat ≤ 191) : triB y z = ((y.toNat - 160) * 64 + (z.toNat - 128) : Nat) := by
  unfold triB; simp only [u8wrap]; omega
theorem tri_val (l : List UInt8) (j : Nat) (h : tri l j) : ((Utf8.decode ⟨l.toArray⟩ (3 * j)).1 : Int) = 10240 + triB (l.getD (3 * j + 1) 0) (l.getD (3 * j + 2) 0) ∧ (Utf8.decode ⟨l.toArray⟩ (3 * j)).2 = 3 := by
  obtain ⟨a, b, c, d, e, f⟩ := h
  rw [triB_val _ _ c d e f, Lib.decode_at, bytes_size, get_at', get_at', get_at', b, triN_val _ _ _ _ (by omega) c d e f]
  exact ⟨by simp only; omega, rfl⟩
theorem enc_tri (l : List UInt8) (j : Nat) (h : tri l j) : Lib.encodeRune (10240 + ((UInt8.ofNat (triB (l.getD (3 * j + 1) 0) (l.getD (3 * j + 2) 0)).toNat).toNat : Int)) = [l.getD (3 * j) 0, l.getD (3 * j + 1) 0, l.getD (3 * j + 2) 0] := by
  obtain ⟨a, b, c, d, e, f⟩ := h
  generalize l.getD (3 * j) 0 = x at *
  generalize l.getD (3 * j + 1) 0 = y at *
  generalize l.getD (3 * j + 2) 0 = z at *
  have hv := triB_val y z c d e f
  obtain ⟨v, hv2⟩ : ∃ v, (y.toNat - 160) * 64 + (z.toNat - 128) = v := ⟨_, rfl⟩
  rw [hv2] at hv
  have hvl : v < 256 := by omega
  rw [hv, Int.toNat_natCast, enc3, UInt8.toNat_ofNat', Nat.mod_eq_of_lt hvl]
  have ex : (226 : UInt8) = x := by apply UInt8.toNat.inj; rw [b]; rfl
  have ey : 160 + UInt8.ofNat (v / 64) = y := by apply UInt8.toNat.inj; rw [UInt8.toNat_add, UInt8.toNat_ofNat']; simp; omega
  have ez : 128 + UInt8.ofNat (v % 64) = z := by apply UInt8.toNat.inj; rw [UInt8.toNat_add, UInt8.toNat_ofNat']; simp; omega
  rw [ex, ey, ez]
theorem outK_snoc (l : List UInt8) (k : Nat) : outK l (k + 1) = outK l k ++ [UInt8.ofNat (triB (l.getD (3 * k + 1) 0) (l.getD (3 * k + 2) 0)).toNat] := by simp [outK, List.range_succ]
theorem take3 (l : List UInt8) (k : Nat) (h : 3 * k + 2 < l.length) : l.take (3 * (k + 1)) = l.take (3 * k) ++ [l.getD (3 * k) 0, l.getD (3 * k + 1) 0, l.getD (3 * k + 2) 0] := by
  have e : l.take (3 * (k + 1)) = ((l.take (3 * k) ++ [l[3 * k]]) ++ [l[3 * k + 1]]) ++ [l[3 * k + 2]] := by
    rw [show 3 * (k + 1) = 3 * k + 1 + 1 + 1 from by omega, List.take_succ_eq_append_getElem (by omega), List.take_succ_eq_append_getElem (i := 3 * k + 1) (by omega), List.take_succ_eq_append_getElem (i := 3 * k) (by omega)]
  rw [e, List.getD_eq_getElem?_getD, List.getD_eq_getElem?_getD, List.getD_eq_getElem?_getD, List.getElem?_eq_getElem (show 3 * k < l.length by omega), List.getElem?_eq_getElem (show 3 * k + 1 < l.length by omega), List.getElem?_eq_getElem (show 3 * k + 2 < l.length by omega)]
  simp only [Option.getD_some, List.append_assoc, List.cons_append, List.nil_append]
theorem enc_take (l : List UInt8) : ∀ k, (∀ j, j < k → tri l j) → encL (outK l k) = l.take (3 * k)
  | 0, _ => by simp [outK, encL]
  | k + 1, h => by
    have ht := h k (by omega)
    rw [outK_snoc, take3 l k ht.1, ← enc_take l k (fun j hj => h j (by omega))]
    unfold encL
    rw [List.flatMap_append, List.flatMap_singleton, enc_tri l k ht]
theorem encL_len (l : List UInt8) : (encL l).length = 3 * l.length := runes_len l
/-- Bytes that are told so: their threes are the runes of bytes. -/
theorem tri_of_enc (l o : List UInt8) (h : encL o = l) (j : Nat) (hj : j < o.length) : tri l j := by
  have hl := encL_len o
  rw [h] at hl
  have e1 : o = o.take j ++ o[j] :: o.drop (j + 1) := by rw [← List.drop_eq_getElem_cons hj, List.take_append_drop]
  have e2 : encL o = encL (o.take j) ++ (Lib.encodeRune (10240 + ((o[j]).toNat : Int)) ++ encL (o.drop (j + 1))) := by
    have e4 := congrArg encL e1
    unfold encL at e4 ⊢
    rw [List.flatMap_append, List.flatMap_cons] at e4
    exact e4
  have e3 : (encL (o.take j)).length = 3 * j := by rw [encL_len, List.length_take]; omega
  rw [enc3, h] at e2
  have hb : (o[j]).toNat < 256 := UInt8.toNat_lt _
  generalize (o[j]).toNat = b at *
  have g0 : l.getD (3 * j) 0 = 226 := by
    rw [e2, List.getD_eq_getElem?_getD, List.getElem?_append_right (by omega), e3, Nat.sub_self]; rfl
  have g1 : l.getD (3 * j + 1) 0 = 160 + UInt8.ofNat (b / 64) := by
    rw [e2, List.getD_eq_getElem?_getD, List.getElem?_append_right (by omega), e3, show 3 * j + 1 - 3 * j = 1 from by omega]; rfl
  have g2 : l.getD (3 * j + 2) 0 = 128 + UInt8.ofNat (b % 64) := by
    rw [e2, List.getD_eq_getElem?_getD, List.getElem?_append_right (by omega), e3, show 3 * j + 2 - 3 * j = 2 from by omega]; rfl
  have t1 : (160 + UInt8.ofNat (b / 64)).toNat = 160 + b / 64 := by rw [UInt8.toNat_add, UInt8.toNat_ofNat']; simp; omega
  have t2 : (128 + UInt8.ofNat (b % 64)).toNat = 128 + b % 64 := by rw [UInt8.toNat_add, UInt8.toNat_ofNat']; simp; omega
  unfold tri
  rw [g0, g1, g2, t1, t2]
  refine ⟨by omega, rfl, ?_⟩
  omega
theorem ref_bad (l : List UInt8) (h45 : l ≠ [45]) (j : Nat) (hj : 3 * j < l.length) (h : ¬ tri l j) : refBytes l = ([], false) := by
  unfold refBytes
  rw [if_neg h45]
  by_cases hb : l = [] ∨ l.length % 3 ≠ 0
  · rw [if_pos hb]
  · rw [if_neg hb]
    have hm : l.length % 3 = 0 := by rcases Nat.eq_zero_or_pos (l.length % 3) with q | q; exact q; exact absurd (.inr (by omega)) hb
    by_cases hr : runesL (outK l (l.length / 3)) = l
    · exfalso
      have ho : outK l (l.length / 3) ≠ [] := by intro e; have := congrArg List.length e; rw [outK_len] at this; simp at this; omega
      unfold runesL at hr
      rw [if_neg ho] at hr
      exact h (tri_of_enc l _ hr j (by rw [outK_len]; omega))
    · rw [if_neg hr]
theorem ref_good (l : List UInt8) (n : Nat) (hn : l.length = 3 * n) (h0 : 0 < n) (h : ∀ j, j < n → tri l j) : refBytes l = (outK l n, true) := by
  have e := enc_take l n h
  rw [List.take_of_length_le (by omega)] at e
  have ho : outK l n ≠ [] := by intro e; have := congrArg List.length e; rw [outK_len] at this; simp at this; omega
  have hr : runesL (outK l n) = l := by unfold runesL; rw [if_neg ho]; exact e
  unfold refBytes
  rw [if_neg (by intro q; rw [q] at hn; simp at hn; omega), if_neg (by rintro (q | q); rw [q] at hn; simp at hn; omega; omega), show l.length / 3 = n from by omega, if_pos hr]
theorem valid_good (l : List UInt8) (n : Nat) (hn : l.length = 3 * n) (h : ∀ j, j < n → tri l j) : ∀ k, k ≤ n → Lib.validD (l.drop (3 * (n - k))) = true := by
  intro k
  induction k with
  | zero => intro _; rw [List.drop_of_length_le (by omega)]; rfl
  | succ k ih =>
    intro hk
    obtain ⟨j, hj⟩ : ∃ j, n - (k + 1) = j := ⟨_, rfl⟩
    rw [hj]
    have ht := h j (by omega)
    have ih' := ih (by omega)
    rw [show n - k = j + 1 from by omega] at ih'
    have hne : l.drop (3 * j) ≠ [] := by intro e; have := congrArg List.length e; rw [List.length_drop] at this; simp at this; omega
    rw [Lib.validD_step _ hne]
    have hv := tri_val l j ht
    have hd : Lib.decodeL (l.drop (3 * j)) = Utf8.decode ⟨l.toArray⟩ (3 * j) := by
      unfold Lib.decodeL
      rw [Lib.decode_at, Lib.decode_at, bytes_size, bytes_size, List.length_drop]
      simp only [get_at', List.getD_eq_getElem?_getD, List.getElem?_drop]
      rfl
    have hbd := triB_bd (l.getD (3 * j + 1) 0) (l.getD (3 * j + 2) 0)
    rw [hd, if_neg (by omega), hv.2, List.drop_drop]
    rw [show 3 * j + 3 = 3 * (j + 1) from by omega]
    exact ih'
/-- What the library calls no text is nobody's bytes. -/
theorem ref_invalid (l : List UInt8) (h45 : l ≠ [45]) (h : Lib.validD l = false) : refBytes l = ([], false) := by
  by_cases hb : l = [] ∨ l.length % 3 ≠ 0
  · unfold refBytes; rw [if_neg h45, if_pos hb]
  · have hm : l.length % 3 = 0 := by rcases Nat.eq_zero_or_pos (l.length % 3) with q | q; exact q; exact absurd (.inr (by omega)) hb
    by_cases ha : ∀ j, j < l.length / 3 → tri l j
    · exfalso
      have := valid_good l (l.length / 3) (by omega) ha (l.length / 3) (Nat.le_refl _)
      rw [Nat.sub_self, Nat.mul_zero, List.drop_zero, h] at this
      cases this
    · obtain ⟨j, hj⟩ := Classical.not_forall.1 ha
      obtain ⟨hj, hn⟩ := Classical.not_imp.1 hj
      exact ref_bad l h45 j (by omega) hn
end Go.Proofs.YtdengmlidckkeaaGreatDoor
