import Derived.Test.YtlcepoagpocadaaGreatDoorOrdD
import Derived.Test.YtlcepoagpocadaaGreatDoorShelfV
import Derived.Lib.ValidLaws
import Derived.Lib.SplitLaws
import Derived.Lib.Join
set_option linter.unusedSimpArgs false
set_option linter.unusedVariables false
namespace Go.Proofs.YtlcepoagpocadaaGreatDoor
open Go Go.RowKit
theorem get_at' (l : List UInt8) (k : Nat) : (⟨l.toArray⟩ : ByteArray).get! k = l.getD k 0 := by
  unfold ByteArray.get!
  simp
  rfl
theorem enc3 (b : UInt8) : Lib.encodeRune (10240 + (b.toNat : Int)) = [226, 160 + UInt8.ofNat (b.toNat / 64), 128 + UInt8.ofNat (b.toNat % 64)] := by
  have hb : b.toNat < 256 := b.toNat_lt
  unfold Lib.encodeRune
  rw [Lib.encodeRuneZ_three (.inl ⟨by omega, by omega⟩)]
  simp only [List.map_cons, List.map_nil]
  have key : ∀ z : Int, ∀ k : Nat, k < 256 → z = k → z.toNat.toUInt8 = UInt8.ofNat k := by
    intro z k _ e; subst e; rfl
  rw [key _ 226 (by omega) (by omega), key _ (160 + b.toNat / 64) (by omega) (by omega), key _ (128 + b.toNat % 64) (by omega) (by omega), UInt8.ofNat_add, UInt8.ofNat_add]
  rfl
def encL (l : List UInt8) : List UInt8 := l.flatMap fun b => Lib.encodeRune (10240 + (b.toNat : Int))
def triB (y z : UInt8) : Int := IntKind.u8.wrap (IntKind.u8.wrap (IntKind.u8.wrap (64 * IntKind.u8.wrap ((y.toNat : Int) - 160)) + (z.toNat : Int)) - 128)
theorem triB_bd (y z : UInt8) : 0 ≤ triB y z ∧ triB y z < 256 := by unfold triB; rw [u8wrap]; omega
def outK (l : List UInt8) (k : Nat) : List UInt8 := (List.range k).map fun j => UInt8.ofNat (triB (l.getD (3 * j + 1) 0) (l.getD (3 * j + 2) 0)).toNat
theorem outK_len (l : List UInt8) (k : Nat) : (outK l k).length = k := by simp [outK]
def refBytes (l : List UInt8) : List UInt8 × Bool :=
  if l = [45] then ([], true) else if l = [] ∨ l.length % 3 ≠ 0 then ([], false) else if runesL (outK l (l.length / 3)) = l then (outK l (l.length / 3), true) else ([], false)
/-- The j-th three bytes are the rune of a byte. -/
def tri (l : List UInt8) (j : Nat) : Prop := 3 * j + 2 < l.length ∧ (l.getD (3 * j) 0).toNat = 226 ∧ 160 ≤ (l.getD (3 * j + 1) 0).toNat ∧ (l.getD (3 * j + 1) 0).toNat ≤ 163 ∧ 128 ≤ (l.getD (3 * j + 2) 0).toNat ∧ (l.getD (3 * j + 2) 0).toNat ≤ 191
instance (l : List UInt8) (j : Nat) : Decidable (tri l j) := by unfold tri; infer_instance
set_option maxHeartbeats 2000000 in
/-- A rune of a byte, as the decoder sees it. -/
theorem triN (n b0 b1 b2 b3 : Nat) (h0 : b0 < 256) (h1 : b1 < 256) (h2 : b2 < 256) : (10240 ≤ (Lib.decodeN n b0 b1 b2 b3).1 ∧ (Lib.decodeN n b0 b1 b2 b3).1 < 10496) ↔ (2 < n ∧ b0 = 226 ∧ 160 ≤ b1 ∧ b1 ≤ 163 ∧ 128 ≤ b2 ∧ b2 ≤ 191) := by
  unfold Lib.decodeN
  repeat' split
  all_goals constructor <;> intro h <;> (try simp only at h ⊢) <;> omega
set_option maxHeartbeats 2000000 in
theorem triN_val (n b1 b2 b3 : Nat) (hn : 2 < n) (h1 : 160 ≤ b1) (h1' : b1 ≤ 163) (h2 : 128 ≤ b2) (h2' : b2 ≤ 191) : Lib.decodeN n 226 b1 b2 b3 = (10240 + (b1 - 160) * 64 + (b2 - 128), 3) := by
  unfold Lib.decodeN
  rw [if_neg (by omega), if_neg (by omega), if_pos (by omega), if_pos (by omega)]
  apply Prod.ext <;> simp only <;> omega
theorem tri_dec (l : List UInt8) (j : Nat) : (10240 ≤ (Utf8.decode ⟨l.toArray⟩ (3 * j)).1 ∧ (Utf8.decode ⟨l.toArray⟩ (3 * j)).1 < 10496) ↔ tri l j := by
  rw [Lib.decode_at, bytes_size, triN _ _ _ _ _ (UInt8.toNat_lt _) (UInt8.toNat_lt _) (UInt8.toNat_lt _), get_at', get_at', get_at']
  unfold tri
  constructor <;> intro h <;> refine ⟨by omega, ?_⟩ <;> exact h.2
theorem triB_val (y z : UInt8) (h1 : 160 ≤ y.toNat) (h1' : y.toNat ≤ 163) (h2 : 128 ≤ z.toNat) (h2' : z.toNat ≤ 191) : triB y z = ((y.toNat - 160) * 64 + (z.toNat - 128) : Nat) := by
  unfold triB; simp only [u8wrap]; omega
theorem tri_val (l : List UInt8) (j : Nat) (h : tri l j) : ((Utf8.decode ⟨l.toArray⟩ (3 * j)).1 : Int) = 10240 + triB (l.getD (3 * j + 1) 0) (l.getD (3 * j + 2) 0) ∧ (Utf8.decode ⟨l.toArray⟩ (3 * j)).2 = 3 := by
  obtain ⟨a, b, c, d, e, f⟩ := h
  rw [triB_val _ _ c d e f, Lib.decode_at, bytes_size, get_at', get_at', get_at', b, triN_val _ _ _ _ (by omega) c d e f]
  exact ⟨by simp only; omega, rfl⟩
theorem enc_tri (l : List UInt8) (j : Nat) (h : tri l j) : Lib.encodeRune (10240 + ((UInt8.ofNat (triB (l.getD (3 * j + 1) 0) (l.getD (3 * j + 2) 0)).toNat).toNat : Int)) = [l.getD (3 * j) 0, l.getD (3 * j + 1) 0, l.getD (3 * j + 2) 0] := by
  obtain ⟨a, b, c, d, e, f⟩ := h
  generalize l.getD (3 * j) 0 = x at *
  generalize l.getD (3 * j + 1) 0 = y at *
  generalize l.getD (3 * j + 2) 0 = z at *
  have hv := triB_val y z c d e f
  obtain ⟨v, hv2⟩ : ∃ v, (y.toNat - 160) * 64 + (z.toNat - 128) = v := ⟨_, rfl⟩
  rw [hv2] at hv
  have hvl : v < 256 := by omega
  rw [hv, Int.toNat_natCast, enc3, UInt8.toNat_ofNat', Nat.mod_eq_of_lt hvl]
  have ex : (226 : UInt8) = x := by apply UInt8.toNat.inj; rw [b]; rfl
  have ey : 160 + UInt8.ofNat (v / 64) = y := by apply UInt8.toNat.inj; rw [UInt8.toNat_add, UInt8.toNat_ofNat']; simp; omega
  have ez : 128 + UInt8.ofNat (v % 64) = z := by apply UInt8.toNat.inj; rw [UInt8.toNat_add, UInt8.toNat_ofNat']; simp; omega
  rw [ex, ey, ez]
theorem outK_snoc (l : List UInt8) (k : Nat) : outK l (k + 1) = outK l k ++ [UInt8.ofNat (triB (l.getD (3 * k + 1) 0) (l.getD (3 * k + 2) 0)).toNat] := by simp [outK, List.range_succ]
theorem take3 (l : List UInt8) (k : Nat) (h : 3 * k + 2 < l.length) : l.take (3 * (k + 1)) = l.take (3 * k) ++ [l.getD (3 * k) 0, l.getD (3 * k + 1) 0, l.getD (3 * k + 2) 0] := by
  have e : l.take (3 * (k + 1)) = ((l.take (3 * k) ++ [l[3 * k]]) ++ [l[3 * k + 1]]) ++ [l[3 * k + 2]] := by
    rw [show 3 * (k + 1) = 3 * k + 1 + 1 + 1 from by omega, List.take_succ_eq_append_getElem (by omega), List.take_succ_eq_append_getElem (i := 3 * k + 1) (by omega), List.take_succ_eq_append_getElem (i := 3 * k) (by omega)]
  rw [e, List.getD_eq_getElem?_getD, List.getD_eq_getElem?_getD, List.getD_eq_getElem?_getD, List.getElem?_eq_getElem (show 3 * k < l.length by omega), List.getElem?_eq_getElem (show 3 * k + 1 < l.length by omega), List.getElem?_eq_getElem (show 3 * k + 2 < l.length by omega)]
  simp only [Option.getD_some, List.append_assoc, List.cons_append, List.nil_append]
theorem enc_take (l : List UInt8) : ∀ k, (∀ j, j < k → tri l j) → encL (outK l k) = l.take (3 * k)
  | 0, _ => by simp [outK, encL]
  | k + 1, h => by
    have ht := h k (by omega)
    rw [outK_snoc, take3 l k ht.1, ← enc_take l k (fun j hj => h j (by omega))]
    unfold encL
    rw [List.flatMap_append, List.flatMap_singleton, enc_tri l k ht]
theorem encL_len (l : List UInt8) : (encL l).length = 3 * l.length := runes_len l
/-- Bytes that are told so: their threes are the runes of bytes. -/
theorem tri_of_enc (l o : List UInt8) (h : encL o = l) (j : Nat) (hj : j < o.length) : tri l j := by
  have hl := encL_len o
  rw [h] at hl
  have e1 : o = o.take j ++ o[j] :: o.drop (j + 1) := by rw [← List.drop_eq_getElem_cons hj, List.take_append_drop]
  have e2 : encL o = encL (o.take j) ++ (Lib.encodeRune (10240 + ((o[j]).toNat : Int)) ++ encL (o.drop (j + 1))) := by
    have e4 := congrArg encL e1
    unfold encL at e4 ⊢
    rw [List.flatMap_append, List.flatMap_cons] at e4
    exact e4
  have e3 : (encL (o.take j)).length = 3 * j := by rw [encL_len, List.length_take]; omega
  rw [enc3, h] at e2
  have hb : (o[j]).toNat < 256 := UInt8.toNat_lt _
  generalize (o[j]).toNat = b at *
  have g0 : l.getD (3 * j) 0 = 226 := by
    rw [e2, List.getD_eq_getElem?_getD, List.getElem?_append_right (by omega), e3, Nat.sub_self]; rfl
  have g1 : l.getD (3 * j + 1) 0 = 160 + UInt8.ofNat (b / 64) := by
    rw [e2, List.getD_eq_getElem?_getD, List.getElem?_append_right (by omega), e3, show 3 * j + 1 - 3 * j = 1 from by omega]; rfl
  have g2 : l.getD (3 * j + 2) 0 = 128 + UInt8.ofNat (b % 64) := by
    rw [e2, List.getD_eq_getElem?_getD, List.getElem?_append_right (by omega), e3, show 3 * j + 2 - 3 * j = 2 from by omega]; rfl
  have t1 : (160 + UInt8.ofNat (b / 64)).toNat = 160 + b / 64 := by rw [UInt8.toNat_add, UInt8.toNat_ofNat']; simp; omega
  have t2 : (128 + UInt8.ofNat (b % 64)).toNat = 128 + b % 64 := by rw [UInt8.toNat_add, UInt8.toNat_ofNat']; simp; omega
  unfold tri
  rw [g0, g1, g2, t1, t2]
  refine ⟨by omega, rfl, ?_⟩
  omega
theorem ref_bad (l : List UInt8) (h45 : l ≠ [45]) (j : Nat) (hj : 3 * j < l.length) (h : ¬ tri l j) : refBytes l = ([], false) := by
  unfold refBytes
  rw [if_neg h45]
  by_cases hb : l = [] ∨ l.length % 3 ≠ 0
  · rw [if_pos hb]
  · rw [if_neg hb]
    have hm : l.length % 3 = 0 := by rcases Nat.eq_zero_or_pos (l.length % 3) with q | q; exact q; exact absurd (.inr (by omega)) hb
    by_cases hr : runesL (outK l (l.length / 3)) = l
    · exfalso
      have ho : outK l (l.length / 3) ≠ [] := by intro e; have := congrArg List.length e; rw [outK_len] at this; simp at this; omega
      unfold runesL at hr
      rw [if_neg ho] at hr
      exact h (tri_of_enc l _ hr j (by rw [outK_len]; omega))
    · rw [if_neg hr]
theorem ref_good (l : List UInt8) (n : Nat) (hn : l.length = 3 * n) (h0 : 0 < n) (h : ∀ j, j < n → tri l j) : refBytes l = (outK l n, true) := by
  have e := enc_take l n h
  rw [List.take_of_length_le (by omega)] at e
  have ho : outK l n ≠ [] := by intro e; have := congrArg List.length e; rw [outK_len] at this; simp at this; omega
  have hr : runesL (outK l n) = l := by unfold runesL; rw [if_neg ho]; exact e
  unfold refBytes
  rw [if_neg (by intro q; rw [q] at hn; simp at hn; omega), if_neg (by rintro (q | q); rw [q] at hn; simp at hn; omega; omega), show l.length / 3 = n from by omega, if_pos hr]
theorem valid_good (l : List UInt8) (n : Nat) (hn : l.length = 3 * n) (h : ∀ j, j < n → tri l j) : ∀ k, k ≤ n → Lib.validD (l.drop (3 * (n - k))) = true := by
  intro k
  induction k with
  | zero => intro _; rw [List.drop_of_length_le (by omega)]; rfl
  | succ k ih =>
    intro hk
    obtain ⟨j, hj⟩ : ∃ j, n - (k + 1) = j := ⟨_, rfl⟩
    rw [hj]
    have ht := h j (by omega)
    have ih' := ih (by omega)
    rw [show n - k = j + 1 from by omega] at ih'
    have hne : l.drop (3 * j) ≠ [] := by intro e; have := congrArg List.length e; rw [List.length_drop] at this; simp at this; omega
    rw [Lib.validD_step _ hne]
    have hv := tri_val l j ht
    have hd : Lib.decodeL (l.drop (3 * j)) = Utf8.decode ⟨l.toArray⟩ (3 * j) := by
      unfold Lib.decodeL
      rw [Lib.decode_at, Lib.decode_at, bytes_size, bytes_size, List.length_drop]
      simp only [get_at', List.getD_eq_getElem?_getD, List.getElem?_drop]
      rfl
    have hbd := triB_bd (l.getD (3 * j + 1) 0) (l.getD (3 * j + 2) 0)
    rw [hd, if_neg (by omega), hv.2, List.drop_drop]
    rw [show 3 * j + 3 = 3 * (j + 1) from by omega]
    exact ih'
/-- What the library calls no text is nobody's bytes. -/
theorem ref_invalid (l : List UInt8) (h45 : l ≠ [45]) (h : Lib.validD l = false) : refBytes l = ([], false) := by
  by_cases hb : l = [] ∨ l.length % 3 ≠ 0
  · unfold refBytes; rw [if_neg h45, if_pos hb]
  · have hm : l.length % 3 = 0 := by rcases Nat.eq_zero_or_pos (l.length % 3) with q | q; exact q; exact absurd (.inr (by omega)) hb
    by_cases ha : ∀ j, j < l.length / 3 → tri l j
    · exfalso
      have := valid_good l (l.length / 3) (by omega) ha (l.length / 3) (Nat.le_refl _)
      rw [Nat.sub_self, Nat.mul_zero, List.drop_zero, h] at this
      cases this
    · obtain ⟨j, hj⟩ := Classical.not_forall.1 ha
      obtain ⟨hj, hn⟩ := Classical.not_imp.1 hj
      exact ref_bad l h45 j (by omega) hn
end Go.Proofs.YtlcepoagpocadaaGreatDoor
namespace Go.Proofs.YtlcepoagpocadaaGreatDoor
open Go Go.RowKit
theorem strOfNums_bytes (l : List UInt8) : strOfNums (l.map fun b => (b.toNat : Int)) = ⟨l.toArray⟩ := by
  unfold strOfNums
  congr 2
  rw [List.map_map]
  conv => rhs; rw [← List.map_id l]
  apply List.map_congr_left
  intro b _
  simp
theorem outK_succ (l : List UInt8) (k : Nat) : Lib.byteCells (outK l (k + 1)) = Lib.byteCells (outK l k) ++ [.int .u8 (triB (l.getD (3 * k + 1) 0) (l.getD (3 * k + 2) 0))] := by
  have hb := triB_bd (l.getD (3 * k + 1) 0) (l.getD (3 * k + 2) 0)
  have : outK l (k + 1) = outK l k ++ [UInt8.ofNat (triB (l.getD (3 * k + 1) 0) (l.getD (3 * k + 2) 0)).toNat] := by simp [outK, List.range_succ]
  rw [this, byteCells_snoc, UInt8.toNat_ofNat', Nat.mod_eq_of_lt (by omega), Int.toNat_of_nonneg hb.1]
theorem valid_any (l : List UInt8) (hl : l.length ≤ 5000000) (w : World) (h : Lib.Utf8Tabs 2 3 w) : Calls Tryz.prog 173 #[.string ⟨l.toArray⟩] w fun e w' => e = .returned (.bool (Lib.validD l)) ∧ Same w w' := by
  have := Any.utf8_ValidString Tryz.lays196 ⟨l.toArray⟩ w (by rw [bytes_size]; omega) h
  refine Calls.mono this ?_
  rintro e w' ⟨rfl, hb⟩
  exact ⟨rfl, Same.of_below hb⟩
theorem Mod.iterAt {S : Nat → Prop} {w w' : World} (h : Mod S w w') {k : Nat} (hk : S k) (s : ByteArray) (pos : Nat) : Mod S w (w'.iterAt k s pos) :=
  ⟨h.os, h.tape, h.output, by rw [Lib.iterAt_size]; exact h.size, fun i hi hs => (Lib.iterAt_other w' k i s pos (fun e => hs (e ▸ hk))).trans (h.block i hi hs)⟩
theorem owns_iterAt {w : World} {base size n : Nat} {e : TypeId} {v : Value} {xs : List Value} (h : w.ownsRow base e size v n xs) {k : Nat} (hk : k < base) (s : ByteArray) (pos : Nat) : (w.iterAt k s pos).ownsRow base e size v n xs := by
  obtain ⟨hl, h0 | ⟨g, cap, cur, hv, hb, hh, r⟩⟩ := h
  · exact ⟨hl, .inl h0⟩
  · exact ⟨hl, .inr ⟨g, cap, cur, hv, hb, (Lib.iterAt_other w k g s pos (by omega)).trans hh, r⟩⟩
theorem iter_append {wr w1 : World} {base size n k : Nat} {e : TypeId} {v : Value} {xs : List Value} {o : Obj} {ob : Obj} (h : wr.ownsRow base e size v n xs) (hg : (wr.alloc o).grownBy w1 v.ownBlock) (hk : wr.heap[k]? = some ob) (hkb : k < base) : w1.heap[k]? = some ob := by
  have M : Mod (fun i => base ≤ i) wr w1 := ((Mod.refl _ wr).alloc o).grown hg (fun k hk _ => owns_ge h k hk)
  have hlt : k < wr.heap.size := (Array.getElem?_eq_some_iff.1 hk).1
  exact (M.block k hlt (by omega)).trans hk
set_option maxRecDepth 10000 in
set_option maxHeartbeats 2000000 in
theorem bytes_any (l : List UInt8) (hl : l.length ≤ 1100000) (w : World) (hv : Lib.Utf8Tabs 2 3 w) : Calls Tryz.prog 143 #[.string ⟨l.toArray⟩] w fun e w' => e = .returned (.tuple #[.string ⟨(refBytes l).1.toArray⟩, .bool (refBytes l).2]) ∧ Same w w' := by
  refine opq fun R HR => ?_
  by_cases h45 : l = [45]
  · subst h45
    clear hv
    go_enter Tryz.func143, Tryz.ntmps143
    go_wp2
    exact HR.out _ _ ⟨rfl, Mod.refl _ _⟩
  by_cases h0 : l = []
  · subst h0
    clear hv
    go_enter Tryz.func143, Tryz.ntmps143
    go_wp2
    exact HR.out _ _ ⟨rfl, Mod.refl _ _⟩
  have b1 : (l == [45]) = false := by simp [h45]
  have b2 : (l == []) = false := by simp [h0]
  have b3 : l.isEmpty = false := by simp [h0]
  have hsz := bytes_size l
  have HVl := Lib.hid (valid_any l (by omega) w hv)
  have hpos : 0 < l.length := List.length_pos_iff.2 h0
  clear hv
  cases hvd : Lib.validD l with
  | false =>
    rw [hvd] at HVl
    rw [ref_invalid l h45 hvd] at HR
    go_enter Tryz.func143, Tryz.ntmps143
    go_wp2_with fail
    refine HVl.out.mono ?_
    rintro e w1 ⟨rfl, M1⟩
    have K1 := Lib.hid M1
    clear M1 HVl
    go_wp2
    exact HR.out _ _ ⟨rfl, K1.out⟩
  | true =>
    rw [hvd] at HVl
    clear hvd
    obtain ⟨i0, hi, hz0, hz1, hz2⟩ := info_parts info5
    have I0 := Lib.hid hi
    have Z0 := Lib.hid hz0
    have Z1 := Lib.hid hz1
    have Z2 := Lib.hid hz2
    clear hi hz0 hz1 hz2
    have H45 := Lib.hid h45
    go_enter Tryz.func143, Tryz.ntmps143
    go_wp2_with fail
    refine HVl.out.mono ?_
    rintro e w1 ⟨rfl, M1⟩
    have K1 := Lib.hid M1
    clear M1 HVl
    go_wp2_with fail
    clear b1 b2 b3
    have hit0 := World.iter_heap w1 ⟨l.toArray⟩ 0
    have hws : (w1.iter ⟨l.toArray⟩ 0).heap.size = w1.heap.size + 1 := by simp [World.iter]
    have K2' := Lib.hid (show Same w (w1.iter ⟨l.toArray⟩ 0) from K1.out.alloc (.stringIter ⟨l.toArray⟩ 0))
    have hwz := K1.out.size
    have HWS := Lib.hid (show w1.heap.size < (w1.iter ⟨l.toArray⟩ 0).heap.size by omega)
    clear K1
    generalize w1.iter ⟨l.toArray⟩ 0 = W1 at *
    generalize hZ : w1.heap.size = Z at *
    go_loopw [4, 6] (fun v _ wr => ∃ j : Nat, 3 * j ≤ l.length ∧ (∀ i, i < j → tri l i) ∧ wr.ownsRow W1.heap.size 5 1 v j (Lib.byteCells (outK l j)) ∧ wr.heap[Z]? = some (.stringIter ⟨l.toArray⟩ (3 * j)) ∧ Mod (fun i => i = Z) W1 wr) (fun _ _ wr => l.length - wr.iterPos Z)
    case atStart => exact ⟨0, by omega, fun i hi => by omega, World.ownsRow_nil _ _ _ _, hit0, Mod.refl _ _⟩
    case round =>
      obtain ⟨j, hj, hall, hown, hit, hM⟩ := hrel
      have HA := Lib.hid hall
      have L1 := Lib.hid hown
      have L2 := Lib.hid hM
      have L3 := Lib.hid hit
      have hszr := hM.size
      clear hall hown hM
      by_cases hlt : 3 * j < l.length
      · have hp : 3 * j < (⟨l.toArray⟩ : ByteArray).size := by rw [hsz]; exact hlt
        have hnx : ∀ ty, (Instr.next (.pointer (some ⟨Z, 0, none⟩)) true ty).run Tryz.prog wr = _ := fun ty => Lib.run_next_any_at wr Z ⟨l.toArray⟩ (3 * j) ty hit hp
        have htd := tri_dec l j
        have hdl := decode_le ⟨l.toArray⟩ (3 * j)
        have N1 := Lib.hid (owns_iterAt L1.out (by omega : Z < W1.heap.size) ⟨l.toArray⟩ (3 * j + (Utf8.decode ⟨l.toArray⟩ (3 * j)).2))
        have N2 := Lib.hid (L2.out.iterAt rfl ⟨l.toArray⟩ (3 * j + (Utf8.decode ⟨l.toArray⟩ (3 * j)).2))
        have N3 := Lib.hid (Lib.iterAt_heap wr Z ⟨l.toArray⟩ (3 * j) (3 * j + (Utf8.decode ⟨l.toArray⟩ (3 * j)).2) hit)
        have hszi := Lib.iterAt_size wr Z ⟨l.toArray⟩ (3 * j + (Utf8.decode ⟨l.toArray⟩ (3 * j)).2)
        by_cases ht : tri l j
        · obtain ⟨hr, hk⟩ := tri_val l j ht
          have hb := triB_bd (l.getD (3 * j + 1) 0) (l.getD (3 * j + 2) 0)
          have E := Lib.hid (outK_succ l j)
          have hl3 := ht.1
          have HT := Lib.hid ht
          clear htd ht hit
          generalize triB (l.getD (3 * j + 1) 0) (l.getD (3 * j + 2) 0) = t at *
          rw [hk] at hnx N1 N2 N3 hszi
          generalize (Utf8.decode ⟨l.toArray⟩ (3 * j)).1 = r at *
          clear hk
          have d1 : decide ((r : Int) < 10240) = false := decide_eq_false (by omega)
          have d2 : decide ((10496 : Int) ≤ (r : Int)) = false := decide_eq_false (by omega)
          have hw1 : IntKind.i32.wrap ((r : Int) - 10240) = t := by unfold IntKind.wrap; simp [IntKind.signed, IntKind.bits]; omega
          have hw2 : IntKind.u8.wrap t = t := by unfold IntKind.wrap; simp [IntKind.signed, IntKind.bits]; omega
          obtain ⟨WI, hWI⟩ : ∃ WI, wr.iterAt Z ⟨l.toArray⟩ (3 * j + 3) = WI := ⟨_, rfl⟩
          rw [hWI] at hnx N1 N2 N3 hszi
          clear hr hdl hit0 hws hwz hWI hb
          have HSZ := Lib.hid hszi
          clear hszi
          go_wp2_with (at_builtin; refine wpList_append_own _ rfl (.tmp 27) (.tmp 31) 22 rfl W1.heap.size 5 i0 (.int .u8 0) 1 1 Tryz.underlying22 I0.out Z0.out Z1.out Z2.out rfl (by decide) _ _ _ rfl (N1.out.alloc _) ⟨WI.heap.size, 0, none⟩ 1 1 [.int .u8 t] rfl rfl (one_new _ _ _) (fun u hu => (by simp at hu; subst hu; rfl)) (by unfold maxLen; omega) (by omega) (by have := HSZ.out; simp only [World.size_alloc]; omega) ?_; intro v' w3 hown' hgrow _)
          have P1 := Lib.hid (same_append N2.out N1.out hgrow)
          have P2 := Lib.hid hown'
          have P3 := Lib.hid (iter_append N1.out hgrow N3.out HWS.out)
          clear hown' hgrow
          go_roundw
          case rel => exact ⟨j + 1, by omega, fun i hi => by
            rcases Nat.lt_or_ge i j with q | q
            · exact HA.out i q
            · obtain rfl : i = j := by omega
              exact HT.out, by rw [E.out]; exact P2.out, P3.out, P1.out⟩
          case measure => simp only [World.iterPos, P3.out, L3.out]; omega
        · rw [ref_bad l H45.out j hlt ht] at HR
          have hbad : ¬ (10240 ≤ (Utf8.decode ⟨l.toArray⟩ (3 * j)).1 ∧ (Utf8.decode ⟨l.toArray⟩ (3 * j)).1 < 10496) := fun q => ht (htd.1 q)
          clear htd ht hit N1 N3 hszi
          generalize (Utf8.decode ⟨l.toArray⟩ (3 * j)).2 = k at *
          generalize (Utf8.decode ⟨l.toArray⟩ (3 * j)).1 = r at *
          generalize hWI : wr.iterAt Z ⟨l.toArray⟩ (3 * j + k) = WI at *
          have KF := Lib.hid (K2'.out.then_ N2.out (fun i hi q => by omega))
          by_cases h1 : (r : Int) < 10240
          · have d1 : decide ((r : Int) < 10240) = true := decide_eq_true h1
            go_wp2_with fail
            exact HR.out _ _ ⟨rfl, KF.out⟩
          · have d1 : decide ((r : Int) < 10240) = false := decide_eq_false h1
            have d2 : decide ((10496 : Int) ≤ (r : Int)) = true := decide_eq_true (by omega)
            go_wp2_with fail
            exact HR.out _ _ ⟨rfl, KF.out⟩
      · have hp : ¬ 3 * j < (⟨l.toArray⟩ : ByteArray).size := by rw [hsz]; exact hlt
        have hnx : ∀ ty, (Instr.next (.pointer (some ⟨Z, 0, none⟩)) true ty).run Tryz.prog wr = _ := fun ty => Lib.run_next_end_at wr Z ⟨l.toArray⟩ (3 * j) ty hit hp
        have hlj : l.length = 3 * j := by omega
        have hj0 : 0 < j := by omega
        rw [ref_good l j hlj hj0 HA.out] at HR
        obtain ⟨g, cap, hgv, hg0, hgc, hrow⟩ := RowV.of_owns L1.out hj0
        subst hgv
        have hol := outK_len l j
        have KC := Lib.hid (run_convert_bytes_arg (P := Tryz.prog) wr 22 5 Tryz.underlying22 Tryz.underlying5 g 0 j cap ((outK l j).map fun b => (b.toNat : Int)) (by rw [List.length_map, hol]) (fun i hi => by
          rw [Nat.zero_add]
          refine ((hrow.cell i (by omega)).trans ?_)
          have hi2 : i < (outK l j).length := by omega
          rw [List.getD_eq_getElem?_getD, List.getD_eq_getElem?_getD]
          unfold Lib.byteCells
          rw [List.getElem?_map, List.getElem?_map, List.getElem?_eq_getElem hi2]; rfl) 9 Tryz.underlying9)
        rw [strOfNums_bytes] at KC
        have kc := KC.out
        have KF := Lib.hid (K2'.out.then_ L2.out (fun i hi q => by omega))
        clear hrow hol hit L1 L2 L3
        generalize outK l j = O at *
        go_wp2_with fail
        exact HR.out _ _ ⟨rfl, KF.out⟩
end Go.Proofs.YtlcepoagpocadaaGreatDoor
namespace Go.Proofs.YtlcepoagpocadaaGreatDoor
open Go Go.RowKit
theorem BlkT.mod {S : Nat → Prop} {w w' : World} {b : Nat} {cs : Array Value} (h : BlkT w b cs) (m : Mod S w w') (hs : ¬ S b) : BlkT w' b cs :=
  { h.toBlk.mod m hs with kind := let ⟨c, T, fz, e, hT⟩ := h.kind; ⟨c, T, fz, (m.block b h.lt hs).trans e, hT⟩ }
theorem two_rows {w W : World} (M : Same w W) (c1 c2 : Array Value) (T1 T2 : TypeId) (h1 : T1 ≠ 5) (h2 : T2 ≠ 5) : RowNew w (((W.alloc (.cells c1 T1)).alloc (.cells c2 T2)).drew) (some ⟨W.heap.size, 0, none⟩) c1.toList ∧ RowNew w (((W.alloc (.cells c1 T1)).alloc (.cells c2 T2)).drew) (some ⟨W.heap.size + 1, 0, none⟩) c2.toList := by
  have k2 := BlkT.new (W.alloc (.cells c1 T1)) c2 T2 h2
  have hz : (W.alloc (.cells c1 T1)).heap.size = W.heap.size + 1 := by simp
  rw [hz] at k2
  have hm := M.size
  exact ⟨RowNew.blk ((BlkT.new W c1 T1 h1).mod (((Mod.refl (fun _ => False) _).alloc _).drew) (fun q => q)) hm, RowNew.blk (k2.mod ((Mod.refl (fun _ => False) _).drew) (fun q => q)) (by omega)⟩
theorem one_row {w W : World} (M : Same w W) (c1 : Array Value) (T1 : TypeId) (h1 : T1 ≠ 5) : RowNew w ((W.alloc (.cells c1 T1)).drew) (some ⟨W.heap.size, 0, none⟩) c1.toList := RowNew.blk ((BlkT.new W c1 T1 h1).mod ((Mod.refl (fun _ => False) _).drew) (fun q => q)) M.size
/-- What parts hands back, where the texts may be too long. -/
def PartsB (ok : Bool) (w : World) (ns ts : List Value) (e : Ending) (w' : World) : Prop := ∃ a1 c1 a2 c2, e = .returned (.tuple #[.slice a1 ns.length c1, .slice a2 ts.length c2, .bool ok]) ∧ RowNew w w' a1 ns ∧ RowNew w w' a2 ts ∧ Same w w'
theorem PartsV.b {w : World} {ns ts : List Value} {e : Ending} {w' : World} (h : PartsV w ns ts e w') : PartsB true w ns ts e w' := h
set_option maxRecDepth 10000 in
set_option maxHeartbeats 2000000 in
theorem parts104 (x0 x1 : Int) (b : ByteArray) (ok : Bool) (hok : decide (b.size ≤ 512) = ok) (w : World) : Calls Tryz.prog 73 #[.iface 38 (.agg #[.int .i64 x0, .int .i64 x1, .string b])] w (PartsB ok w [.int .i64 x0, .int .i64 x1] [.string b]) := by
  refine opq fun R HR => ?_
  have m83 := fun W => as83_no W 38 (.agg #[.int .i64 x0, .int .i64 x1, .string b]) (by decide)
  have m62 := fun W => as62_no W 38 (.agg #[.int .i64 x0, .int .i64 x1, .string b]) (by decide)
  have m98 := fun W => as98_no W 38 (.agg #[.int .i64 x0, .int .i64 x1, .string b]) (by decide)
  have m99 := fun W => as99_no W 38 (.agg #[.int .i64 x0, .int .i64 x1, .string b]) (by decide)
  have m61 := fun W => as61_no W 38 (.agg #[.int .i64 x0, .int .i64 x1, .string b]) (by decide)
  have m100 := fun W => as100_no W 38 (.agg #[.int .i64 x0, .int .i64 x1, .string b]) (by decide)
  have m102 := fun W => as102_no W 38 (.agg #[.int .i64 x0, .int .i64 x1, .string b]) (by decide)
  have m104 := fun W => as104_yes W (.agg #[.int .i64 x0, .int .i64 x1, .string b])
  obtain ⟨n, hn⟩ : ∃ n, b.size = n := ⟨_, rfl⟩
  have hn5 : decide ((n : Int) ≤ 512) = ok := by rw [← hok, hn]; exact decide_eq_decide.2 (by omega)
  clear hok
  go_enter Tryz.func73, Tryz.ntmps73
  go_wp2_with fail
  have B := Lib.hid (Blk.new w #[.int .i64 x0, .int .i64 x1, .string b] 38)
  have M := Lib.hid ((Mod.refl (fun _ => False) w).alloc (.cells #[.int .i64 x0, .int .i64 x1, .string b] 38))
  generalize w.alloc _ = W at *
  generalize hZ : w.heap.size = Z at *
  have HK := Lib.hid (fun (W' : World) (M : Same W W') => (B.out.mod M (fun q => q)).cell)
  have hc := B.out.cell
  go_region_held3 (fun w' => ∀ i, w'.cell? ⟨Z, i, none⟩ = #[Value.int .i64 x0, .int .i64 x1, .string b][i]?) (first | exact HK.out _ ((Mod.refl _ _).drew) | exact HK.out _ (((Mod.refl _ _).alloc _).drew) | exact HK.out _ ((((Mod.refl _ _).alloc _).alloc _).drew) | assumption) ((first | fail))
  all_goals
    go_wp2_with fail
    first
    | exact HR.out _ _ ⟨_, _, _, _, rfl, (two_rows M.out _ _ _ _ (by decide) (by decide)).1, (two_rows M.out _ _ _ _ (by decide) (by decide)).2, ((M.out.alloc _).alloc _).drew⟩
    | exact HR.out _ _ ⟨_, _, _, _, rfl, (two_rows M.out _ _ _ _ (by decide) (by decide)).2, (two_rows M.out _ _ _ _ (by decide) (by decide)).1, ((M.out.alloc _).alloc _).drew⟩
set_option maxRecDepth 10000 in
set_option maxHeartbeats 2000000 in
theorem parts111 (b0 b1 b2 : ByteArray) (ok : Bool) (hok : (decide (b0.size ≤ 512) && decide (b1.size ≤ 512) && decide (b2.size ≤ 512)) = ok) (w : World) : Calls Tryz.prog 73 #[.iface 45 (.agg #[.string b0, .string b1, .string b2])] w (PartsB ok w [] [.string b0, .string b1, .string b2]) := by
  refine opq fun R HR => ?_
  have m83 := fun W => as83_no W 45 (.agg #[.string b0, .string b1, .string b2]) (by decide)
  have m62 := fun W => as62_no W 45 (.agg #[.string b0, .string b1, .string b2]) (by decide)
  have m98 := fun W => as98_no W 45 (.agg #[.string b0, .string b1, .string b2]) (by decide)
  have m99 := fun W => as99_no W 45 (.agg #[.string b0, .string b1, .string b2]) (by decide)
  have m61 := fun W => as61_no W 45 (.agg #[.string b0, .string b1, .string b2]) (by decide)
  have m100 := fun W => as100_no W 45 (.agg #[.string b0, .string b1, .string b2]) (by decide)
  have m102 := fun W => as102_no W 45 (.agg #[.string b0, .string b1, .string b2]) (by decide)
  have m104 := fun W => as104_no W 45 (.agg #[.string b0, .string b1, .string b2]) (by decide)
  have m105 := fun W => as105_no W 45 (.agg #[.string b0, .string b1, .string b2]) (by decide)
  have m26 := fun W => as26_no W 45 (.agg #[.string b0, .string b1, .string b2]) (by decide)
  have m109 := fun W => as109_no W 45 (.agg #[.string b0, .string b1, .string b2]) (by decide)
  have m111 := fun W => as111_yes W (.agg #[.string b0, .string b1, .string b2])
  obtain ⟨n0, hn0⟩ : ∃ n, b0.size = n := ⟨_, rfl⟩
  obtain ⟨n1, hn1⟩ : ∃ n, b1.size = n := ⟨_, rfl⟩
  obtain ⟨n2, hn2⟩ : ∃ n, b2.size = n := ⟨_, rfl⟩
  obtain ⟨m, hm⟩ : ∃ m : Int, max (max (n0 : Int) n1) n2 = m := ⟨_, rfl⟩
  have mx : ∀ W, (Builtin.max_ #[3, 3, 3] 3 #[.int .i64 (n0 : Int), .int .i64 (n1 : Int), .int .i64 (n2 : Int)]).run Tryz.prog W = .ok (.int .i64 m) W := by
    intro W
    rw [run_max_int3, ← hm]
    congr 2
    repeat' split
    all_goals omega
  have hn5 : decide (m ≤ 512) = ok := by rw [← hok, hn0, hn1, hn2, ← Bool.decide_and, ← Bool.decide_and]; exact decide_eq_decide.2 (by omega)
  clear hok hm
  go_enter Tryz.func73, Tryz.ntmps73
  go_wp2_with fail
  have B := Lib.hid (Blk.new w #[.string b0, .string b1, .string b2] 45)
  have M := Lib.hid ((Mod.refl (fun _ => False) w).alloc (.cells #[.string b0, .string b1, .string b2] 45))
  generalize w.alloc _ = W at *
  generalize hZ : w.heap.size = Z at *
  have HK := Lib.hid (fun (W' : World) (M : Same W W') => (B.out.mod M (fun q => q)).cell)
  have hc := B.out.cell
  go_region_held3 (fun w' => ∀ i, w'.cell? ⟨Z, i, none⟩ = #[Value.string b0, .string b1, .string b2][i]?) (first | exact HK.out _ ((Mod.refl _ _).drew) | exact HK.out _ (((Mod.refl _ _).alloc _).drew) | assumption) ((first | fail))
  all_goals
    go_wp2_with fail
    exact HR.out _ _ ⟨none, 0, _, _, rfl, RowNew.nil _ _ _, one_row M.out _ _ (by decide), (M.out.alloc _).drew⟩
end Go.Proofs.YtlcepoagpocadaaGreatDoor
namespace Go.Proofs.YtlcepoagpocadaaGreatDoor
open Go
/-- What stands between blanks. -/
def spl : List UInt8 → List (List UInt8)
  | [] => [[]]
  | c :: r => if c = 32 then [] :: spl r else match spl r with
    | [] => [[c]]
    | w :: ws => (c :: w) :: ws
theorem spl_ne : ∀ l, ∃ w ws, spl l = w :: ws
  | [] => ⟨_, _, rfl⟩
  | c :: r => by
    obtain ⟨w, ws, e⟩ := spl_ne r
    unfold spl
    by_cases h : c = 32
    · rw [if_pos h]; exact ⟨_, _, rfl⟩
    · rw [if_neg h, e]; exact ⟨_, _, rfl⟩
theorem spl_cons {c : UInt8} {r w : List UInt8} {ws : List (List UInt8)} (h : c ≠ 32) (e : spl r = w :: ws) : spl (c :: r) = (c :: w) :: ws := by
  rw [spl, if_neg h, e]
theorem index_hit (r : List UInt8) : Lib.index (32 :: r) [32] = ((0 : Nat) : Int) := by rw [Lib.index]; simp [List.isPrefixOf]
theorem index_next (c : UInt8) (r : List UInt8) (h : c ≠ 32) (j : Nat) (hj : Lib.index r [32] = j) : Lib.index (c :: r) [32] = ((j + 1 : Nat) : Int) := by
  have hp : ([32] : List UInt8).isPrefixOf (c :: r) = false := by simp [List.isPrefixOf, Ne.symm h]
  rw [Lib.index, hp, hj]
  have : ¬ ((j : Int) == -1) = true := fun e => by have := beq_iff_eq.1 e; omega
  simp only [Bool.false_eq_true, if_false, if_neg this]; omega
theorem split_spl : ∀ l, Lib.splitK [32] 0 (Lib.count l [32]) l = spl l
  | [] => by rw [Lib.count_one]; rfl
  | c :: r => by
    have ih := split_spl r
    by_cases h : c = 32
    · subst h
      rw [Lib.count_cons_eq, Nat.add_comm, Lib.splitK, index_hit]
      simp only [List.length_singleton]
      rw [if_neg (by decide)]
      show [] :: Lib.splitK [32] 0 (Lib.count r [32]) r = _
      rw [ih, spl, if_pos rfl]
    · rw [Lib.count_cons_ne c 32 r h]
      cases hk : Lib.count r [32] with
      | zero =>
        rw [hk] at ih
        rw [spl_cons h ih.symm]; rfl
      | succ k =>
        rw [hk] at ih
        have hm : Lib.index r [32] ≠ -1 := by intro e; rw [Lib.count_miss e] at hk; omega
        have hge := Lib.index_ge r [32]
        obtain ⟨j, hj⟩ : ∃ j : Nat, Lib.index r [32] = j := ⟨(Lib.index r [32]).toNat, by omega⟩
        have hb : ∀ j : Nat, ¬ ((j : Int) == -1) = true := fun j e => by have := beq_iff_eq.1 e; omega
        rw [Lib.splitK, hj, if_neg (hb j), Int.toNat_natCast] at ih
        rw [Lib.splitK, index_next c r h j hj, if_neg (hb (j + 1)), Int.toNat_natCast, spl_cons h ih.symm]
        simp only [List.length_singleton, Nat.add_zero, List.take_succ_cons, List.drop_succ_cons]
theorem spl_word : ∀ (w : List UInt8), (∀ c ∈ w, c ≠ 32) → spl w = [w]
  | [], _ => rfl
  | c :: r, h => by rw [spl_cons (h c (by simp)) (spl_word r fun d hd => h d (by simp [hd]))]
theorem spl_app : ∀ (w r : List UInt8), (∀ c ∈ w, c ≠ 32) → spl (w ++ 32 :: r) = w :: spl r
  | [], r, _ => by rw [List.nil_append, spl, if_pos rfl]
  | c :: l, r, h => by rw [List.cons_append, spl_cons (h c (by simp)) (spl_app l r fun d hd => h d (by simp [hd]))]
theorem joinTail_cons (y : List UInt8) (r : List (List UInt8)) : Lib.joinTail [32] (y :: r) = 32 :: (y ++ Lib.joinTail [32] r) := by simp [Lib.joinTail]
theorem spl_join : ∀ (r : List (List UInt8)) (w : List UInt8), (∀ c ∈ w, c ≠ 32) → (∀ y ∈ r, ∀ c ∈ y, c ≠ 32) → spl (Lib.join (w :: r) [32]) = w :: r
  | [], w, h, _ => by rw [Lib.join_one, spl_word w h]
  | y :: r, w, h, h2 => by
    have ih := spl_join r y (h2 y (by simp)) (fun z hz => h2 z (by simp [hz]))
    rw [Lib.join_cons] at ih
    rw [Lib.join_cons, joinTail_cons, spl_app w _ h, ih]
theorem spl_len : ∀ l, ∀ w ∈ spl l, w.length ≤ l.length
  | [], w, h => by simp [spl] at h; subst h; simp
  | c :: r, w, h => by
    obtain ⟨v, vs, e⟩ := spl_ne r
    have ih := spl_len r
    rw [e] at ih
    by_cases hc : c = 32
    · rw [spl, if_pos hc, e] at h
      simp only [List.mem_cons] at h
      rcases h with rfl | h
      · simp
      · have := ih w (by simp; exact h); simp; omega
    · rw [spl_cons hc e] at h
      simp only [List.mem_cons] at h
      rcases h with rfl | h
      · have := ih v (by simp); simp; omega
      · have := ih w (by simp [h]); simp; omega
theorem spl_count : ∀ l, (spl l).length ≤ l.length + 1
  | [] => by simp [spl]
  | c :: r => by
    obtain ⟨v, vs, e⟩ := spl_ne r
    have ih := spl_count r
    by_cases hc : c = 32
    · rw [spl, if_pos hc]; simp only [List.length_cons]; omega
    · rw [spl_cons hc e]; rw [e] at ih; simp only [List.length_cons] at ih ⊢; omega
/-- What strings.Split hands back at a blank. -/
theorem splitB_spl (s : ByteArray) : (Lib.splitB ⟨#[32]⟩ 0 (Lib.countB s ⟨#[32]⟩) s).map (·.data.toList) = spl s.data.toList := by
  rw [Lib.splitB_data]; exact split_spl s.data.toList
end Go.Proofs.YtlcepoagpocadaaGreatDoor
namespace Go.Proofs.YtlcepoagpocadaaGreatDoor
open Go Go.RowKit
def isWide (a b c : UInt8) : Bool := a == 239 && b == 188 && decide (144 ≤ c.toNat) && decide (c.toNat ≤ 153)
def plainL : List UInt8 → List UInt8
  | a :: b :: c :: r => if isWide a b c then (48 + c - 144) :: plainL r else a :: plainL (b :: c :: r)
  | a :: r => a :: plainL r
  | [] => []
theorem plainL_cons (x : UInt8) (r : List UInt8) (h : ∀ y z r', r = y :: z :: r' → isWide x y z = false) : plainL (x :: r) = x :: plainL r := by
  match r, h with
  | [], _ => rfl
  | [y], _ => rfl
  | y :: z :: r', h => rw [plainL, h y z r' rfl]; rfl
theorem wide_iff (x y z : UInt8) : isWide x y z = true ↔ x.toNat = 239 ∧ y.toNat = 188 ∧ 144 ≤ z.toNat ∧ z.toNat ≤ 153 := by
  unfold isWide
  simp only [Bool.and_eq_true, beq_iff_eq, decide_eq_true_eq, ← UInt8.toNat_inj]
  constructor
  · rintro ⟨⟨⟨h1, h2⟩, h3⟩, h4⟩; exact ⟨h1, h2, h3, h4⟩
  · rintro ⟨h1, h2, h3, h4⟩; exact ⟨⟨⟨h1, h2⟩, h3⟩, h4⟩
def isDigit (c : UInt8) : Bool := decide (48 ≤ c.toNat) && decide (c.toNat ≤ 57)
def digitsOnly (d : List UInt8) : Bool := d.all isDigit
def valFrom (u : Int) : List UInt8 → Int
  | [] => u
  | c :: r => valFrom (IntKind.u64.wrap (IntKind.u64.wrap (u * 10) + ((c.toNat : Int) - 48))) r
theorem valFrom_snoc (l : List UInt8) (c : UInt8) : ∀ u, valFrom u (l ++ [c]) = IntKind.u64.wrap (IntKind.u64.wrap (valFrom u l * 10) + ((c.toNat : Int) - 48)) := by
  induction l with
  | nil => intro u; rfl
  | cons a l ih => intro u; exact ih _
def bare (t : List UInt8) : List UInt8 := if t.head? = some 45 then t.tail else t
def signed (t : List UInt8) (u : Int) : Int := if t.head? = some 45 then IntKind.i64.wrap (IntKind.u64.wrap (-u)) else IntKind.i64.wrap u
def refNum (t : List UInt8) : Int × Bool :=
  if bare t = [] ∨ 19 < (bare t).length ∨ digitsOnly (bare t) = false then (0, false) else
    if Lib.itoa (signed t (valFrom 0 (bare t))) = t then (signed t (valFrom 0 (bare t)), true) else (0, false)
theorem refNum_bad (t : List UInt8) (h : bare t = [] ∨ 19 < (bare t).length ∨ digitsOnly (bare t) = false) : refNum t = (0, false) := if_pos h
theorem refNum_good (t : List UInt8) (h : ¬ (bare t = [] ∨ 19 < (bare t).length ∨ digitsOnly (bare t) = false)) : refNum t = if Lib.itoa (signed t (valFrom 0 (bare t))) = t then (signed t (valFrom 0 (bare t)), true) else (0, false) := if_neg h
theorem i64_any (z : Int) : J64 (IntKind.i64.wrap z) := by unfold J64 IntKind.wrap; simp [IntKind.signed, IntKind.bits]; omega
theorem wideN (n b0 b1 b2 b3 : Nat) (h0 : b0 < 256) (h1 : b1 < 256) (h2 : b2 < 256) : (65296 ≤ (Lib.decodeN n b0 b1 b2 b3).1 ∧ (Lib.decodeN n b0 b1 b2 b3).1 ≤ 65305) ↔ (b0 = 239 ∧ b1 = 188 ∧ 2 < n ∧ 144 ≤ b2 ∧ b2 ≤ 153) := by
  unfold Lib.decodeN
  repeat' split
  all_goals constructor <;> intro h <;> (try simp only at h ⊢) <;> omega
set_option maxHeartbeats 2000000 in
theorem wideN_val (n b2 b3 : Nat) (hn : 2 < n) (h2 : 144 ≤ b2) (h3 : b2 ≤ 153) : Lib.decodeN n 239 188 b2 b3 = (65296 + (b2 - 144), 3) := by
  unfold Lib.decodeN
  rw [if_neg (by omega), if_neg (by omega), if_pos (by omega), if_pos (by omega)]
  apply Prod.ext <;> simp only <;> omega
def asc (l : List UInt8) : Bool := l.all fun c => decide (c.toNat < 128)
theorem asc_app (a b : List UInt8) : asc (a ++ b) = (asc a && asc b) := by unfold asc; rw [List.all_append]
theorem asc_cons (a : UInt8) (b : List UInt8) : asc (a :: b) = (decide (a.toNat < 128) && asc b) := by unfold asc; rw [List.all_cons]
theorem enc_high (r : Int) (h : 128 ≤ r) : asc (Lib.encodeRune r) = false := by
  have key : ∀ z : Int, 128 ≤ z → z < 256 → ∀ rest : List Int, asc ((z :: rest).map fun x => x.toNat.toUInt8) = false := by
    intro z h1 h2 rest
    rw [List.map_cons, asc_cons, decide_eq_false, Bool.false_and]
    have : (z.toNat.toUInt8).toNat = z.toNat := by
      rw [show z.toNat.toUInt8 = UInt8.ofNat z.toNat from rfl, UInt8.toNat_ofNat', Nat.mod_eq_of_lt (by omega)]
    omega
  unfold Lib.encodeRune Lib.encodeRuneZ
  split
  · omega
  · split
    · exact key _ (by omega) (by omega) _
    · split
      · exact key _ (by omega) (by omega) _
      · split
        · exact key _ (by omega) (by omega) _
        · exact key _ (by omega) (by omega) _
theorem enc_low (c : UInt8) (r : Int) (hr : r = (c.toNat : Int)) (h : c.toNat < 128) : Lib.encodeRune r = [c] := by
  unfold Lib.encodeRune
  rw [Lib.encodeRuneZ_one (by omega) (by omega), hr]
  simp
theorem digit_byte (z : UInt8) (h1 : 144 ≤ z.toNat) (h2 : z.toNat ≤ 153) : (48 + z - 144).toNat = 48 + (z.toNat - 144) := by
  rw [UInt8.toNat_sub_of_le, UInt8.toNat_add]
  · simp; omega
  · rw [UInt8.le_iff_toNat_le, UInt8.toNat_add]; simp; omega
set_option maxRecDepth 200000 in
theorem thin_plain (l : List UInt8) : ∀ fuel pos, l.length ≤ pos + fuel → (asc (thinFrom ⟨l.toArray⟩ fuel pos) = true ∨ asc (plainL (l.drop pos)) = true) → thinFrom ⟨l.toArray⟩ fuel pos = plainL (l.drop pos) := by
  have hsz := bytes_size l
  intro fuel
  induction fuel with
  | zero => intro pos hp _; rw [List.drop_of_length_le (by omega)]; simp [thinFrom, plainL]
  | succ f ih =>
    intro pos hp
    by_cases hlt : pos < l.length
    · obtain ⟨x, hx⟩ : ∃ x, l[pos]? = some x := ⟨_, List.getElem?_eq_getElem hlt⟩
      have hd : l.drop pos = x :: l.drop (pos + 1) := by obtain ⟨q, rfl⟩ := List.getElem?_eq_some_iff.1 hx; exact List.drop_eq_getElem_cons q
      have hx0 : (⟨l.toArray⟩ : ByteArray).get! pos = x := by rw [get_at', List.getD_eq_getElem?_getD, hx]; rfl
      have hT : thinFrom ⟨l.toArray⟩ (f + 1) pos = Lib.encodeRune (thin (Utf8.decode ⟨l.toArray⟩ pos).1) ++ thinFrom ⟨l.toArray⟩ f (pos + (Utf8.decode ⟨l.toArray⟩ pos).2) := by
        simp only [thinFrom, hsz, if_pos hlt]
      have hdec := Lib.decode_at ⟨l.toArray⟩ pos
      rw [hx0, hsz] at hdec
      by_cases hlow : x.toNat < 128
      · have e : Utf8.decode ⟨l.toArray⟩ pos = (x.toNat, 1) := by rw [hdec]; unfold Lib.decodeN; rw [if_pos hlow]
        have et : thin (x.toNat : Int) = (x.toNat : Int) := by unfold thin; rw [if_neg (by omega)]
        have hpl : plainL (x :: l.drop (pos + 1)) = x :: plainL (l.drop (pos + 1)) := plainL_cons x _ (fun y z r' _ => Bool.eq_false_iff.2 (fun q => by have := ((wide_iff x y z).1 q).1; omega))
        rw [hT, e, hd, hpl]
        dsimp only
        rw [et, enc_low x _ rfl hlow]
        intro h
        rw [List.singleton_append]
        congr 1
        apply ih (pos + 1) (by omega)
        rcases h with h | h
        · rw [List.singleton_append, asc_cons, Bool.and_eq_true] at h; exact .inl h.2
        · rw [asc_cons, Bool.and_eq_true] at h; exact .inr h.2
      · have hb0 : x.toNat < 256 := x.toNat_lt
        have hb1 : ((⟨l.toArray⟩ : ByteArray).get! (pos + 1)).toNat < 256 := UInt8.toNat_lt _
        have hb2 : ((⟨l.toArray⟩ : ByteArray).get! (pos + 2)).toNat < 256 := UInt8.toNat_lt _
        have hW := wideN (l.length - pos) x.toNat _ _ ((⟨l.toArray⟩ : ByteArray).get! (pos + 3)).toNat hb0 hb1 hb2
        by_cases hw : x.toNat = 239 ∧ ((⟨l.toArray⟩ : ByteArray).get! (pos + 1)).toNat = 188 ∧ 2 < l.length - pos ∧ 144 ≤ ((⟨l.toArray⟩ : ByteArray).get! (pos + 2)).toNat ∧ ((⟨l.toArray⟩ : ByteArray).get! (pos + 2)).toNat ≤ 153
        · obtain ⟨w0, w1, w2, w3, w4⟩ := hw
          obtain ⟨y, hy⟩ : ∃ y, l[pos + 1]? = some y := ⟨_, List.getElem?_eq_getElem (by omega)⟩
          obtain ⟨z, hz⟩ : ∃ z, l[pos + 2]? = some z := ⟨_, List.getElem?_eq_getElem (by omega)⟩
          have hy0 : (⟨l.toArray⟩ : ByteArray).get! (pos + 1) = y := by rw [get_at', List.getD_eq_getElem?_getD, hy]; rfl
          have hz0 : (⟨l.toArray⟩ : ByteArray).get! (pos + 2) = z := by rw [get_at', List.getD_eq_getElem?_getD, hz]; rfl
          rw [hy0] at w1
          rw [hz0] at w3 w4
          have hd2 : l.drop (pos + 1) = y :: z :: l.drop (pos + 3) := by
            obtain ⟨q, rfl⟩ := List.getElem?_eq_some_iff.1 hy
            obtain ⟨q2, rfl⟩ := List.getElem?_eq_some_iff.1 hz
            rw [List.drop_eq_getElem_cons q, List.drop_eq_getElem_cons q2]
          have e : Utf8.decode ⟨l.toArray⟩ pos = (65296 + (z.toNat - 144), 3) := by
            rw [hdec, w0, hy0, hz0, w1]; exact wideN_val _ _ _ w2 w3 w4
          have et : thin ((65296 + (z.toNat - 144) : Nat) : Int) = ((48 + z - 144).toNat : Int) := by
            rw [digit_byte z w3 w4]; unfold thin; rw [if_pos (by omega)]; omega
          have hpl : plainL (x :: y :: z :: l.drop (pos + 3)) = (48 + z - 144) :: plainL (l.drop (pos + 3)) := by
            rw [plainL, if_pos ((wide_iff x y z).2 ⟨w0, w1, w3, w4⟩)]
          rw [hT, e, hd, hd2, hpl]
          dsimp only
          rw [et, enc_low (48 + z - 144) _ rfl (by rw [digit_byte z w3 w4]; omega)]
          intro h
          rw [List.singleton_append]
          congr 1
          apply ih (pos + 3) (by omega)
          rcases h with h | h
          · rw [List.singleton_append, asc_cons, Bool.and_eq_true] at h; exact .inl h.2
          · rw [asc_cons, Bool.and_eq_true] at h; exact .inr h.2
        · intro h
          exfalso
          rcases h with h | h
          · have hn : ¬ (65296 ≤ (Utf8.decode ⟨l.toArray⟩ pos).1 ∧ (Utf8.decode ⟨l.toArray⟩ pos).1 ≤ 65305) := by
              rw [hdec]; exact fun q => hw (hW.1 q)
            have hhi := (decode_high ⟨l.toArray⟩ pos (by rw [hsz]; exact hlt) (by
              have : (⟨l.toArray⟩ : ByteArray)[pos]'(by rw [hsz]; exact hlt) = x := by obtain ⟨q, hq⟩ := List.getElem?_eq_some_iff.1 hx; exact hq
              rw [this]; omega)).1
            have et : thin ((Utf8.decode ⟨l.toArray⟩ pos).1 : Int) = ((Utf8.decode ⟨l.toArray⟩ pos).1 : Int) := by
              unfold thin; rw [if_neg (by omega)]
            rw [hT, et, asc_app, enc_high _ (by omega), Bool.false_and] at h
            cases h
          · have hpl : plainL (x :: l.drop (pos + 1)) = x :: plainL (l.drop (pos + 1)) := plainL_cons x _ (fun y z r' e => Bool.eq_false_iff.2 (fun q => by
              obtain ⟨v0, v1, v2, v3⟩ := (wide_iff x y z).1 q
              have hle := congrArg List.length e
              rw [List.length_drop] at hle
              simp at hle
              have hy : l[pos + 1]? = some y := by
                have := congrArg (fun q => q[0]?) e
                simpa using this
              have hz : l[pos + 2]? = some z := by
                have := congrArg (fun q => q[1]?) e
                simpa using this
              apply hw
              rw [get_at', get_at', List.getD_eq_getElem?_getD, List.getD_eq_getElem?_getD, hy, hz]
              exact ⟨v0, v1, by omega, v2, v3⟩))
            rw [hd, hpl, asc_cons, decide_eq_false hlow, Bool.false_and] at h
            cases h
    · intro _
      rw [List.drop_of_length_le (by omega)]
      simp [thinFrom, plainL, hsz, hlt]
theorem digit48 (k : Nat) (h : k < 10) : (UInt8.ofNat (48 + k)).toNat = 48 + k := by rw [UInt8.toNat_ofNat', Nat.mod_eq_of_lt (by omega)]
theorem dec_digits : ∀ u, digitsOnly (Lib.decDigits u) = true ∧ asc (Lib.decDigits u) = true := by
  intro u
  induction u using Nat.strongRecOn with
  | _ u ih =>
    rw [Lib.decDigits]
    split
    · rename_i h
      constructor
      · simp only [digitsOnly, List.all_cons, List.all_nil, isDigit, digit48 u h]; simp; omega
      · simp only [asc, List.all_cons, List.all_nil, digit48 u h]; simp; omega
    · rename_i h
      obtain ⟨h1, h2⟩ := ih (u / 10) (by omega)
      constructor
      · unfold digitsOnly at h1 ⊢
        rw [List.all_append, h1]
        simp only [List.all_cons, List.all_nil, isDigit, digit48 (u % 10) (by omega)]; simp; omega
      · rw [asc_app, h2]
        simp only [asc, List.all_cons, List.all_nil, digit48 (u % 10) (by omega)]; simp; omega
theorem dec_val : ∀ u, u < 18446744073709551616 → valFrom 0 (Lib.decDigits u) = (u : Int) := by
  intro u
  induction u using Nat.strongRecOn with
  | _ u ih =>
    intro hu
    rw [Lib.decDigits]
    split
    · rename_i h
      simp only [valFrom, digit48 u h]
      rw [wraps_u64 (0 * 10) (by omega) (by omega), wraps_u64 _ (by omega) (by omega)]; omega
    · rename_i h
      rw [valFrom_snoc, ih (u / 10) (by omega) (by omega), digit48 (u % 10) (by omega)]
      rw [wraps_u64 (((u / 10 : Nat) : Int) * 10) (by omega) (by omega), wraps_u64 _ (by omega) (by omega)]; omega
theorem parse_app (a b : List UInt8) : ∀ acc, Lib.parseUint10 acc (a ++ b) = match Lib.parseUint10 acc a with | .ok v => Lib.parseUint10 v b | e => e := by
  induction a with
  | nil => intro acc; rfl
  | cons c r ih =>
    intro acc
    simp only [List.cons_append, Lib.parseUint10]
    split
    · split
      · rfl
      · split
        · rfl
        · exact ih _
    · rfl
theorem dec_parse : ∀ u, u < 18446744073709551616 → Lib.parseUint10 0 (Lib.decDigits u) = .ok u := by
  intro u
  induction u using Nat.strongRecOn with
  | _ u ih =>
    intro hu
    rw [Lib.decDigits]
    split
    · rename_i h
      simp only [Lib.parseUint10, digit48 u h]
      rw [if_pos ⟨by omega, by omega⟩, if_neg (by omega), if_neg (by omega)]
      congr 1; omega
    · rename_i h
      rw [parse_app, ih (u / 10) (by omega) (by omega)]
      simp only [Lib.parseUint10, digit48 (u % 10) (by omega)]
      rw [if_pos ⟨by omega, by omega⟩, if_neg (by omega), if_neg (by omega)]
      congr 1; omega
theorem dec_len : ∀ (k u : Nat), u < 10 ^ (k + 1) → (Lib.decDigits u).length ≤ k + 1 := by
  intro k
  induction k with
  | zero => intro u h; rw [Lib.decDigits, dif_pos (by simpa using h)]; simp
  | succ k ih =>
    intro u h
    rw [Lib.decDigits]
    split
    · simp
    · have := ih (u / 10) (by rw [Nat.pow_succ] at h; omega)
      rw [List.length_append]; simp; omega
theorem dec_ne (u : Nat) : Lib.decDigits u ≠ [] := by rw [Lib.decDigits]; split <;> simp
theorem dec_head (u : Nat) : ∃ c r, Lib.decDigits u = c :: r ∧ 48 ≤ c.toNat ∧ c.toNat ≤ 57 := by
  obtain ⟨c, r, h⟩ := List.exists_cons_of_ne_nil (dec_ne u)
  have hd := (dec_digits u).1
  rw [h] at hd
  simp only [digitsOnly, List.all_cons, isDigit, Bool.and_eq_true, decide_eq_true_eq] at hd
  exact ⟨c, r, h, hd.1.1, hd.1.2⟩
theorem itoa_neg (n : Int) (h : n < 0) : Lib.itoa n = 45 :: Lib.decDigits n.natAbs := if_pos h
theorem itoa_pos (n : Int) (h : ¬ n < 0) : Lib.itoa n = Lib.decDigits n.toNat := if_neg h
theorem itoa_asc (n : Int) : asc (Lib.itoa n) = true := by
  by_cases h : n < 0
  · rw [itoa_neg n h, asc_cons, (dec_digits _).2]; rfl
  · rw [itoa_pos n h, (dec_digits _).2]
theorem mag_dec (u : Nat) (hu : u < 18446744073709551616) : Lib.parseMag (Lib.decDigits u) = .ok u := by
  unfold Lib.parseMag; rw [if_neg (dec_ne u), dec_parse u hu]
theorem atoi_itoa (n : Int) (hn : J64 n) : Lib.atoiAll (Lib.itoa n) = .ok n := by
  unfold J64 at hn
  by_cases h : n < 0
  · rw [itoa_neg n h, Lib.atoiAll_minus, mag_dec _ (by omega)]
    unfold Lib.signed
    simp only
    rw [if_neg (by omega)]
    congr 1; omega
  · rw [itoa_pos n h]
    obtain ⟨c, r, e, h1, h2⟩ := dec_head n.toNat
    have hm := mag_dec n.toNat (by omega)
    rw [e] at hm ⊢
    rw [Lib.atoiAll_plain c r (by omega) (by omega), hm]
    unfold Lib.signless
    simp only
    rw [if_neg (by omega)]
    congr 1; omega
theorem ref_itoa (n : Int) (hn : J64 n) : refNum (Lib.itoa n) = (n, true) := by
  unfold J64 at hn
  by_cases h : n < 0
  · have hb : bare (Lib.itoa n) = Lib.decDigits n.natAbs := by rw [itoa_neg n h]; rfl
    have hv := dec_val n.natAbs (by omega)
    have hs : signed (Lib.itoa n) (valFrom 0 (bare (Lib.itoa n))) = n := by
      rw [hb, hv, itoa_neg n h]
      show IntKind.i64.wrap (IntKind.u64.wrap (-(n.natAbs : Int))) = n
      have e : -(n.natAbs : Int) = n := by omega
      rw [e]
      unfold IntKind.wrap; simp [IntKind.signed, IntKind.bits]; omega
    rw [refNum_good _ (by
      rw [hb]; intro q
      rcases q with q | q | q
      · exact dec_ne _ q
      · have := dec_len 18 n.natAbs (by have : (10 : Nat) ^ 19 = 10000000000000000000 := by decide
                                        omega); omega
      · rw [(dec_digits _).1] at q; cases q), hs, if_pos rfl]
  · obtain ⟨c, r, e, h1, h2⟩ := dec_head n.toNat
    have hh : (Lib.itoa n).head? ≠ some 45 := by
      rw [itoa_pos n h, e]; intro q
      have : c = 45 := by simpa using q
      rw [this] at h1; exact absurd h1 (by decide)
    have hb : bare (Lib.itoa n) = Lib.decDigits n.toNat := by unfold bare; rw [if_neg hh, itoa_pos n h]
    have hv := dec_val n.toNat (by omega)
    have hs : signed (Lib.itoa n) (valFrom 0 (bare (Lib.itoa n))) = n := by
      rw [hb, hv]; unfold signed; rw [if_neg hh]
      have e : ((n.toNat : Nat) : Int) = n := by omega
      rw [e]; exact IntWalk.i64_in _ (by omega)
    rw [refNum_good _ (by
      rw [hb]; intro q
      rcases q with q | q | q
      · exact dec_ne _ q
      · have := dec_len 18 n.toNat (by have : (10 : Nat) ^ 19 = 10000000000000000000 := by decide
                                       omega); omega
      · rw [(dec_digits _).1] at q; cases q), hs, if_pos rfl]
theorem number_same (l : List UInt8) : numberL ⟨l.toArray⟩ = refNum (plainL l) := by
  have hsz := bytes_size l
  have hT : (asc (thinL ⟨l.toArray⟩) = true ∨ asc (plainL l) = true) → thinL ⟨l.toArray⟩ = plainL l := by
    intro h
    have := thin_plain l l.length 0 (by omega)
    unfold thinL at h ⊢
    rw [hsz] at h ⊢
    rw [List.drop_zero] at this
    exact this h
  by_cases hc : ∃ n, J64 n ∧ (Lib.itoa n = thinL ⟨l.toArray⟩ ∨ Lib.itoa n = plainL l)
  · obtain ⟨n, hn, h⟩ := hc
    have he : thinL ⟨l.toArray⟩ = plainL l := by
      apply hT
      rcases h with h | h
      · left; rw [← h]; exact itoa_asc n
      · right; rw [← h]; exact itoa_asc n
    have h2 : Lib.itoa n = plainL l := by rcases h with h | h; rw [h, he]; exact h
    unfold numberL
    rw [he, ← h2, atoi_itoa n hn, ref_itoa n hn]
    simp
  · have h1 : numberL ⟨l.toArray⟩ = (0, false) := by
      unfold numberL
      split
      · rename_i n hat
        rw [if_neg (fun q => hc ⟨n, Lib.atoiAll_bounds hat, .inl q⟩)]
      · rfl
    rw [h1]
    by_cases hb : bare (plainL l) = [] ∨ 19 < (bare (plainL l)).length ∨ digitsOnly (bare (plainL l)) = false
    · rw [refNum_bad _ hb]
    · rw [refNum_good _ hb, if_neg (fun q => hc ⟨_, by unfold signed; split <;> exact i64_any _, .inr q⟩)]
abbrev num (l : List UInt8) : Int × Bool := numberL ⟨l.toArray⟩
abbrev byt (l : List UInt8) : List UInt8 × Bool := refBytes l
theorem plainL_asc : ∀ l : List UInt8, asc l = true → plainL l = l
  | [], _ => rfl
  | x :: r, h => by
    rw [asc_cons, Bool.and_eq_true] at h
    have hx : x.toNat < 128 := of_decide_eq_true h.1
    rw [plainL_cons x r (fun y z r' _ => by
      cases e : isWide x y z with
      | false => rfl
      | true => have := (wide_iff x y z).1 e; omega), plainL_asc r h.2]
theorem num_itoa (n : Int) (h : J64 n) : num (Lib.itoa n) = (n, true) := by
  unfold num
  rw [number_same, plainL_asc _ (itoa_asc n), ref_itoa n h]
theorem num_i64 (l : List UInt8) : J64 (num l).1 := by
  unfold num numberL
  cases hat : Lib.atoiAll (thinL ⟨l.toArray⟩) with
  | ok v =>
    dsimp only
    by_cases hq : Lib.itoa v = thinL ⟨l.toArray⟩
    · rw [if_pos hq]; exact Lib.atoiAll_bounds hat
    · rw [if_neg hq]; unfold J64; simp
  | _ => unfold J64; simp
theorem encL_cons (x : UInt8) (a : List UInt8) : encL (x :: a) = 226 :: (160 + UInt8.ofNat (x.toNat / 64)) :: (128 + UInt8.ofNat (x.toNat % 64)) :: encL a := by
  unfold encL; rw [List.flatMap_cons, enc3]; rfl
theorem encL_inj : ∀ a b : List UInt8, encL a = encL b → a = b
  | [], [], _ => rfl
  | [], y :: b, h => by rw [encL_cons] at h; cases h
  | x :: a, [], h => by rw [encL_cons] at h; cases h
  | x :: a, y :: b, h => by
    rw [encL_cons, encL_cons] at h
    simp only [List.cons.injEq] at h
    obtain ⟨_, h1, h2, h3⟩ := h
    rw [encL_inj a b h3]
    congr 1
    have hx : x.toNat < 256 := x.toNat_lt
    have hy : y.toNat < 256 := y.toNat_lt
    have e1 := congrArg UInt8.toNat h1
    have e2 := congrArg UInt8.toNat h2
    rw [UInt8.toNat_add, UInt8.toNat_add, UInt8.toNat_ofNat', UInt8.toNat_ofNat'] at e1 e2
    apply UInt8.toNat.inj
    simp at e1 e2
    omega
theorem byt_runes (d : List UInt8) : byt (runesL d) = (d, true) := by
  unfold byt
  by_cases hd : d = []
  · subst hd; rfl
  · have e : runesL d = encL d := by unfold runesL; rw [if_neg hd]; rfl
    have hn : 0 < d.length := List.length_pos_iff.2 hd
    have hall : ∀ j, j < d.length → tri (encL d) j := fun j hj => tri_of_enc (encL d) d rfl j hj
    rw [e, ref_good (encL d) d.length (encL_len d) hn hall]
    have := enc_take (encL d) d.length hall
    rw [List.take_of_length_le (by rw [encL_len]; exact Nat.le_refl _)] at this
    rw [encL_inj _ _ this]
theorem dec_nb (u : Nat) : ∀ c ∈ Lib.decDigits u, c ≠ 32 := by
  intro c hc
  have h := (dec_digits u).1
  unfold digitsOnly at h
  have := List.all_eq_true.1 h c hc
  intro e; subst e; revert this; decide
theorem itoa_nb (n : Int) : ∀ c ∈ Lib.itoa n, c ≠ 32 := by
  intro c hc
  by_cases h : n < 0
  · rw [itoa_neg n h, List.mem_cons] at hc
    rcases hc with rfl | hc
    · decide
    · exact dec_nb _ c hc
  · rw [itoa_pos n h] at hc; exact dec_nb _ c hc
theorem encL_nb : ∀ d : List UInt8, ∀ c ∈ encL d, c ≠ 32
  | [], c, h => by cases h
  | x :: a, c, h => by
    have hx : x.toNat < 256 := x.toNat_lt
    rw [encL_cons] at h
    simp only [List.mem_cons] at h
    rcases h with rfl | rfl | rfl | h
    · decide
    · intro e; have := congrArg UInt8.toNat e; rw [UInt8.toNat_add, UInt8.toNat_ofNat'] at this; simp at this; omega
    · intro e; have := congrArg UInt8.toNat e; rw [UInt8.toNat_add, UInt8.toNat_ofNat'] at this; simp at this; omega
    · exact encL_nb a c h
theorem runes_nb (d : List UInt8) : ∀ c ∈ runesL d, c ≠ 32 := by
  intro c hc
  unfold runesL at hc
  split at hc
  · rw [List.mem_singleton] at hc; subst hc; decide
  · exact encL_nb d c hc
theorem runes_le (d : List UInt8) : (runesL d).length ≤ 3 * d.length + 1 := by
  unfold runesL
  split
  · simp
  · have := runes_len d; omega
/-- An order: its kind, its numbers, its texts. -/
structure OW where
  k : Nat
  ns : List Int
  ts : List (List UInt8)
theorem OW.ext' {x y : OW} (h1 : x.k = y.k) (h2 : x.ns = y.ns) (h3 : x.ts = y.ts) : x = y := by
  cases x; cases y; subst h1; subst h2; subst h3; rfl
/-- How many numbers, how many texts a kind bears. -/
def nN (k : Nat) : Nat := ([2, 1, 2, 2, 1, 1, 3, 2, 3, 0, 1, 0, 0, 1, 0] : List Nat).getD k 0
def nD (k : Nat) : Nat := ([0, 0, 0, 0, 0, 0, 0, 1, 0, 0, 0, 0, 0, 0, 3] : List Nat).getD k 0
structure OW.form (o : OW) : Prop where
  lt : o.k < 15
  nn : o.ns.length = nN o.k
  nd : o.ts.length = nD o.k
  i64 : ∀ n ∈ o.ns, J64 n
def OW.fits (o : OW) : Bool := o.ts.all fun t => decide (t.length ≤ 512)
/-- An order's line. -/
def textO (o : OW) : List UInt8 := Lib.join (wordL o.k :: (o.ns.map Lib.itoa ++ o.ts.map runesL)) [32]
/-- The reader: the words that are left, and whether one was missing or none's. -/
abbrev Rd := List (List UInt8) × Bool
def rdNext : Rd → List UInt8 × Rd
  | ([], _) => ([], ([], true))
  | (s :: r, b) => (s, (r, b))
def rdNum (st : Rd) : Int × Rd := ((num (rdNext st).1).1, ((rdNext st).2.1, (rdNext st).2.2 || !(num (rdNext st).1).2))
def rdDat (st : Rd) : List UInt8 × Rd := ((byt (rdNext st).1).1, ((rdNext st).2.1, (rdNext st).2.2 || !(byt (rdNext st).1).2))
def rdNums : Nat → Rd → List Int × Rd
  | 0, st => ([], st)
  | n + 1, st => ((rdNum st).1 :: (rdNums n (rdNum st).2).1, (rdNums n (rdNum st).2).2)
def rdDats : Nat → Rd → List (List UInt8) × Rd
  | 0, st => ([], st)
  | n + 1, st => ((rdDat st).1 :: (rdDats n (rdDat st).2).1, (rdDats n (rdDat st).2).2)
/-- The kind that a word begins. -/
def kindOf (w : List UInt8) : Option Nat := (List.range 15).find? fun k => wordL k == w
/-- The order behind a word. -/
def rdKind (k : Nat) (st : Rd) : OW × Rd := (⟨k, (rdNums (nN k) st).1, (rdDats (nD k) (rdNums (nN k) st).2).1⟩, (rdDats (nD k) (rdNums (nN k) st).2).2)
def parseW (ws : List (List UInt8)) : Option OW :=
  match kindOf (rdNext (ws, false)).1 with
  | none => none
  | some k =>
    if (rdKind k (rdNext (ws, false)).2).1.fits && !(rdKind k (rdNext (ws, false)).2).2.2 && (rdKind k (rdNext (ws, false)).2).2.1.isEmpty then some (rdKind k (rdNext (ws, false)).2).1 else none
/-- A line's order. -/
def parseL (l : List UInt8) : Option OW := parseW (spl l)
theorem kind_word : ∀ k, k < 15 → kindOf (wordL k) = some k := by decide
theorem kind_lt {w : List UInt8} {k : Nat} (h : kindOf w = some k) : k < 15 ∧ wordL k = w := by
  have h1 := List.mem_of_find?_eq_some h
  have h2 := List.find?_some h
  exact ⟨List.mem_range.1 h1, by simpa using h2⟩
theorem kind_none {w : List UInt8} (h : kindOf w = none) : ∀ k, k < 15 → (wordL k == w) = false := by
  intro k hk
  have := List.find?_eq_none.1 h k (List.mem_range.2 hk)
  simpa using this
theorem word_nb : ∀ k, ∀ c ∈ wordL k, c ≠ 32 := by
  intro k
  rcases Nat.lt_or_ge k 15 with h | h
  · have : ∀ k, k < 15 → (wordL k).all (fun c => !(c == 32)) = true := by decide
    intro c hc
    have := List.all_eq_true.1 (this k h) c hc
    simpa using this
  · intro c hc
    unfold wordL at hc
    rw [List.getD_eq_getElem?_getD, List.getElem?_eq_none (by simpa using h)] at hc; cases hc
theorem rdNums_itoa : ∀ (ns : List Int) (r : List (List UInt8)) (b : Bool), (∀ n ∈ ns, J64 n) → rdNums ns.length (ns.map Lib.itoa ++ r, b) = (ns, (r, b))
  | [], _, _, _ => rfl
  | n :: ns, r, b, h => by
    have e : rdNum ((n :: ns).map Lib.itoa ++ r, b) = (n, (ns.map Lib.itoa ++ r, b)) := by
      unfold rdNum
      show ((num (Lib.itoa n)).1, (ns.map Lib.itoa ++ r, b || !(num (Lib.itoa n)).2)) = _
      rw [num_itoa n (h n (by simp))]; simp
    rw [List.length_cons, rdNums, e, rdNums_itoa ns r b fun m hm => h m (by simp [hm])]
theorem rdDats_runes : ∀ (ts : List (List UInt8)) (b : Bool), rdDats ts.length (ts.map runesL, b) = (ts, ([], b))
  | [], _ => rfl
  | t :: ts, b => by
    have e : rdDat ((t :: ts).map runesL, b) = (t, (ts.map runesL, b)) := by
      unfold rdDat
      show ((byt (runesL t)).1, (ts.map runesL, b || !(byt (runesL t)).2)) = _
      rw [byt_runes t]; simp
    rw [List.length_cons, rdDats, e, rdDats_runes ts b]
theorem spl_text (o : OW) : spl (textO o) = wordL o.k :: (o.ns.map Lib.itoa ++ o.ts.map runesL) := by
  unfold textO
  apply spl_join _ _ (word_nb o.k)
  intro y hy c hc
  rcases List.mem_append.1 hy with q | q
  · obtain ⟨n, _, rfl⟩ := List.mem_map.1 q; exact itoa_nb n c hc
  · obtain ⟨n, _, rfl⟩ := List.mem_map.1 q; exact runes_nb n c hc
/-- What was told is read as it was. -/
theorem parse_text (o : OW) (h : o.form) (hf : o.fits = true) : parseL (textO o) = some o := by
  obtain ⟨k, ns, ts⟩ := o
  unfold parseL
  rw [spl_text]
  unfold parseW
  simp only [rdNext]
  rw [kind_word k h.lt]
  have e : rdKind k (ns.map Lib.itoa ++ ts.map runesL, false) = (⟨k, ns, ts⟩, ([], false)) := by
    unfold rdKind
    have hn : ns.length = nN k := h.nn
    have hd : ts.length = nD k := h.nd
    rw [← hn, ← hd, rdNums_itoa ns _ _ h.i64, rdDats_runes]
  simp only [e, hf]; rfl
theorem rdNums_form : ∀ (n : Nat) (st : Rd), (rdNums n st).1.length = n ∧ ∀ m ∈ (rdNums n st).1, J64 m
  | 0, _ => ⟨rfl, fun _ h => by cases h⟩
  | n + 1, st => by
    obtain ⟨a, b⟩ := rdNums_form n (rdNum st).2
    refine ⟨by rw [rdNums, List.length_cons, a], fun m hm => ?_⟩
    rw [rdNums, List.mem_cons] at hm
    rcases hm with rfl | hm
    · exact num_i64 _
    · exact b m hm
theorem rdDats_len : ∀ (n : Nat) (st : Rd), (rdDats n st).1.length = n
  | 0, _ => rfl
  | n + 1, st => by rw [rdDats, List.length_cons, rdDats_len n]
theorem rdKind_form (k : Nat) (hk : k < 15) (st : Rd) : (rdKind k st).1.form :=
  ⟨hk, (rdNums_form _ _).1, rdDats_len _ _, (rdNums_form _ _).2⟩
theorem parse_form {l : List UInt8} {o : OW} (h : parseL l = some o) : o.form ∧ o.fits = true := by
  unfold parseL parseW at h
  cases hk : kindOf (rdNext (spl l, false)).1 with
  | none => rw [hk] at h; cases h
  | some k =>
    rw [hk] at h
    dsimp only at h
    split at h
    · rename_i hc
      cases h
      simp only [Bool.and_eq_true] at hc
      exact ⟨rdKind_form k (kind_lt hk).1 _, hc.1.1⟩
    · cases h
/-- Unlike orders have unlike lines. -/
theorem text_inj (x y : OW) (hx : x.form) (hy : y.form) (fx : x.fits = true) (fy : y.fits = true) (h : textO x = textO y) : x = y := by
  have a := parse_text x hx fx
  have b := parse_text y hy fy
  rw [h, b] at a
  exact (Option.some.inj a).symm
end Go.Proofs.YtlcepoagpocadaaGreatDoor
