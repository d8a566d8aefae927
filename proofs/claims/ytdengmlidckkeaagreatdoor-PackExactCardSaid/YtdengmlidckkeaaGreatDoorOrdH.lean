import Derived.Test.YtdengmlidckkeaaGreatDoorOrdG
set_option linter.unusedSimpArgs false
set_option linter.unusedVariables false
namespace Go.Proofs.YtdengmlidckkeaaGreatDoor
open Go Go.RowKit
set_option maxHeartbeats 2000000 in
/-- A wide digit, as the decoder sees it. -/
theorem wideN (n b0 b1 b2 b3 : Nat) (h0 : b0 < 256) (h1 : b1 < 256) (h2 : b2 < 256) : (65296 ≤ (Lib.decodeN n b0 b1 b2 b3).1 ∧ (Lib.decodeN n b0 b1 b2 b3).1 ≤ 65305) ↔ (b0 = 239 ∧ b1 = 188 ∧ 2 < n ∧ 144 ≤ b2 ∧ b2 ≤ 153) := by
  unfold Lib.decodeN
  repeat' split
  all_goals constructor <;> intro h <;> (try simp only at h ⊢) <;> omega
set_option maxHeartbeats 2000000 in
theorem wideN_val (n b2 b3 : Nat) (hn : 2 < n) (h2 : 144 ≤ b2) (h3 : b2 ≤ 153) : Lib.decodeN n 239 188 b2 b3 = (65296 + (b2 - 144), 3) := by
  unfold Lib.decodeN
  rw [if_neg (by omega), if_neg (by omega), if_pos (by omega), if_pos (by omega)]
  apply Prod.ext <;> simp only <;> omega
def asc (l : List UInt8) : Bool := l.all fun c => decide (c.toNat < 128)
theorem asc_app (a b : List UInt8) : asc (a ++ b) = (asc a && asc b) := by unfold asc; rw [List.all_append]
theorem asc_cons (a : UInt8) (b : List UInt8) : asc (a :: b) = (decide (a.toNat < 128) && asc b) := by unfold asc; rw [List.all_cons]
theorem enc_high (r : Int) (h : 128 ≤ r) : asc (Lib.encodeRune r) = false := by
  have key : ∀ z : Int, 128 ≤ z → z < 256 → ∀ rest : List Int, asc ((z :: rest).map fun x => x.toNat.toUInt8) = false := by
    intro z h1 h2 rest
    rw [List.map_cons, asc_cons, decide_eq_false, Bool.false_and]
    have : (z.toNat.toUInt8).toNat = z.toNat := by
      rw [show z.toNat.toUInt8 = UInt8.ofNat z.toNat from rfl, UInt8.toNat_ofNat', Nat.mod_eq_of_lt (by omega)]
    omega
  unfold Lib.encodeRune Lib.encodeRuneZ
  split
  · omega
  · split
    · exact key _ (by omega) (by omega) _
    · split
      · exact key _ (by omega) (by omega) _
      · split
        · exact key _ (by omega) (by omega) _
        · exact key _ (by omega) (by omega) _
theorem enc_low (c : UInt8) (r : Int) (hr : r = (c.toNat : Int)) (h : c.toNat < 128) : Lib.encodeRune r = [c] := by
  unfold Lib.encodeRune
  rw [Lib.encodeRuneZ_one (by omega) (by omega), hr]
  simp
theorem get_at' (l : List UInt8) (k : Nat) : (⟨l.toArray⟩ : ByteArray).get! k = l.getD k 0 := by
  unfold ByteArray.get!
  simp
  rfl
theorem digit_byte (z : UInt8) (h1 : 144 ≤ z.toNat) (h2 : z.toNat ≤ 153) : (48 + z - 144).toNat = 48 + (z.toNat - 144) := by
  rw [UInt8.toNat_sub_of_le, UInt8.toNat_add]
  · simp; omega
  · rw [UInt8.le_iff_toNat_le, UInt8.toNat_add]; simp; omega
set_option maxRecDepth 200000 in
theorem thin_plain (l : List UInt8) : ∀ fuel pos, l.length ≤ pos + fuel → (asc (thinFrom ⟨l.toArray⟩ fuel pos) = true ∨ asc (plainL (l.drop pos)) = true) → thinFrom ⟨l.toArray⟩ fuel pos = plainL (l.drop pos) := by
  have hsz := bytes_size l
  intro fuel
  induction fuel with
  | zero => intro pos hp _; rw [List.drop_of_length_le (by omega)]; simp [thinFrom, plainL]
  | succ f ih =>
    intro pos hp
    by_cases hlt : pos < l.length
    · obtain ⟨x, hx⟩ : ∃ x, l[pos]? = some x := ⟨_, List.getElem?_eq_getElem hlt⟩
      have hd : l.drop pos = x :: l.drop (pos + 1) := by obtain ⟨q, rfl⟩ := List.getElem?_eq_some_iff.1 hx; exact List.drop_eq_getElem_cons q
      have hx0 : (⟨l.toArray⟩ : ByteArray).get! pos = x := by rw [get_at', List.getD_eq_getElem?_getD, hx]; rfl
      have hT : thinFrom ⟨l.toArray⟩ (f + 1) pos = Lib.encodeRune (thin (Utf8.decode ⟨l.toArray⟩ pos).1) ++ thinFrom ⟨l.toArray⟩ f (pos + (Utf8.decode ⟨l.toArray⟩ pos).2) := by
        simp only [thinFrom, hsz, if_pos hlt]
      have hdec := Lib.decode_at ⟨l.toArray⟩ pos
      rw [hx0, hsz] at hdec
      by_cases hlow : x.toNat < 128
      · have e : Utf8.decode ⟨l.toArray⟩ pos = (x.toNat, 1) := by rw [hdec]; unfold Lib.decodeN; rw [if_pos hlow]
        have et : thin (x.toNat : Int) = (x.toNat : Int) := by unfold thin; rw [if_neg (by omega)]
        have hpl : plainL (x :: l.drop (pos + 1)) = x :: plainL (l.drop (pos + 1)) := plainL_cons x _ (fun y z r' _ => Bool.eq_false_iff.2 (fun q => by have := ((wide_iff x y z).1 q).1; omega))
        rw [hT, e, hd, hpl]
        dsimp only
        rw [et, enc_low x _ rfl hlow]
        intro h
        rw [List.singleton_append]
        congr 1
        apply ih (pos + 1) (by omega)
        rcases h with h | h
        · rw [List.singleton_append, asc_cons, Bool.and_eq_true] at h; exact .inl h.2
        · rw [asc_cons, Bool.and_eq_true] at h; exact .inr h.2
      · have hb0 : x.toNat < 256 := x.toNat_lt
        have hb1 : ((⟨l.toArray⟩ : ByteArray).get! (pos + 1)).toNat < 256 := UInt8.toNat_lt _
        have hb2 : ((⟨l.toArray⟩ : ByteArray).get! (pos + 2)).toNat < 256 := UInt8.toNat_lt _
        have hW := wideN (l.length - pos) x.toNat _ _ ((⟨l.toArray⟩ : ByteArray).get! (pos + 3)).toNat hb0 hb1 hb2
        by_cases hw : x.toNat = 239 ∧ ((⟨l.toArray⟩ : ByteArray).get! (pos + 1)).toNat = 188 ∧ 2 < l.length - pos ∧ 144 ≤ ((⟨l.toArray⟩ : ByteArray).get! (pos + 2)).toNat ∧ ((⟨l.toArray⟩ : ByteArray).get! (pos + 2)).toNat ≤ 153
        · obtain ⟨w0, w1, w2, w3, w4⟩ := hw
          obtain ⟨y, hy⟩ : ∃ y, l[pos + 1]? = some y := ⟨_, List.getElem?_eq_getElem (by omega)⟩
          obtain ⟨z, hz⟩ : ∃ z, l[pos + 2]? = some z := ⟨_, List.getElem?_eq_getElem (by omega)⟩
          have hy0 : (⟨l.toArray⟩ : ByteArray).get! (pos + 1) = y := by rw [get_at', List.getD_eq_getElem?_getD, hy]; rfl
          have hz0 : (⟨l.toArray⟩ : ByteArray).get! (pos + 2) = z := by rw [get_at', List.getD_eq_getElem?_getD, hz]; rfl
          rw [hy0] at w1
          rw [hz0] at w3 w4
          have hd2 : l.drop (pos + 1) = y :: z :: l.drop (pos + 3) := by
            obtain ⟨q, rfl⟩ := List.getElem?_eq_some_iff.1 hy
            obtain ⟨q2, rfl⟩ := List.getElem?_eq_some_iff.1 hz
            rw [List.drop_eq_getElem_cons q, List.drop_eq_getElem_cons q2]
          have e : Utf8.decode ⟨l.toArray⟩ pos = (65296 + (z.toNat - 144), 3) := by
            rw [hdec, w0, hy0, hz0, w1]; exact wideN_val _ _ _ w2 w3 w4
          have et : thin ((65296 + (z.toNat - 144) : Nat) : Int) = ((48 + z - 144).toNat : Int) := by
            rw [digit_byte z w3 w4]; unfold thin; rw [if_pos (by omega)]; omega
          have hpl : plainL (x :: y :: z :: l.drop (pos + 3)) = (48 + z - 144) :: plainL (l.drop (pos + 3)) := by
            rw [plainL, if_pos ((wide_iff x y z).2 ⟨w0, w1, w3, w4⟩)]
          rw [hT, e, hd, hd2, hpl]
          dsimp only
          rw [et, enc_low (48 + z - 144) _ rfl (by rw [digit_byte z w3 w4]; omega)]
          intro h
          rw [List.singleton_append]
          congr 1
          apply ih (pos + 3) (by omega)
          rcases h with h | h
          · rw [List.singleton_append, asc_cons, Bool.and_eq_true] at h; exact .inl h.2
          · rw [asc_cons, Bool.and_eq_true] at h; exact .inr h.2
        · intro h
          exfalso
          rcases h with h | h
          · have hn : ¬ (65296 ≤ (Utf8.decode ⟨l.toArray⟩ pos).1 ∧ (Utf8.decode ⟨l.toArray⟩ pos).1 ≤ 65305) := by
              rw [hdec]; exact fun q => hw (hW.1 q)
            have hhi := (decode_high ⟨l.toArray⟩ pos (by rw [hsz]; exact hlt) (by
              have : (⟨l.toArray⟩ : ByteArray)[pos]'(by rw [hsz]; exact hlt) = x := by obtain ⟨q, hq⟩ := List.getElem?_eq_some_iff.1 hx; exact hq
              rw [this]; omega)).1
            have et : thin ((Utf8.decode ⟨l.toArray⟩ pos).1 : Int) = ((Utf8.decode ⟨l.toArray⟩ pos).1 : Int) := by
              unfold thin; rw [if_neg (by omega)]
            rw [hT, et, asc_app, enc_high _ (by omega), Bool.false_and] at h
            cases h
          · have hpl : plainL (x :: l.drop (pos + 1)) = x :: plainL (l.drop (pos + 1)) := plainL_cons x _ (fun y z r' e => Bool.eq_false_iff.2 (fun q => by
              obtain ⟨v0, v1, v2, v3⟩ := (wide_iff x y z).1 q
              have hle := congrArg List.length e
              rw [List.length_drop] at hle
              simp at hle
              have hy : l[pos + 1]? = some y := by
                have := congrArg (fun q => q[0]?) e
                simpa using this
              have hz : l[pos + 2]? = some z := by
                have := congrArg (fun q => q[1]?) e
                simpa using this
              apply hw
              rw [get_at', get_at', List.getD_eq_getElem?_getD, List.getD_eq_getElem?_getD, hy, hz]
              exact ⟨v0, v1, by omega, v2, v3⟩))
            rw [hd, hpl, asc_cons, decide_eq_false hlow, Bool.false_and] at h
            cases h
    · intro _
      rw [List.drop_of_length_le (by omega)]
      simp [thinFrom, plainL, hsz, hlt]
end Go.Proofs.YtdengmlidckkeaaGreatDoor
