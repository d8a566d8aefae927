import Derived.Test.YtdengmlidckkeaaGreatDoorPackG
import Derived.Laws.BitsAllLaws
import Derived.Test.YtdengmlidckkeaaGreatDoorPkG
import Derived.Deep.RegionHeld3
import Derived.Laws.BytesArg
set_option linter.unusedSimpArgs false
set_option linter.unusedVariables false
namespace Go.Proofs.YtdengmlidckkeaaGreatDoor
open Go Go.RowKit
/-- One bit of the register, in natural numbers. -/
def tB (c : Nat) : Nat := if c % 2 = 1 then (c / 2) ^^^ 2197175160 else c / 2
def tN (c : Nat) : Nat → Nat
  | 0 => c
  | j + 1 => tB (tN c j)
theorem xor_lt32 {a b : Nat} (ha : a < 4294967296) (hb : b < 4294967296) : a ^^^ b < 4294967296 := Nat.xor_lt_two_pow (n := 32) ha hb
theorem tB_lt {c : Nat} (h : c < 4294967296) : tB c < 4294967296 := by
  unfold tB
  split
  · exact xor_lt32 (by omega) (by decide)
  · omega
theorem tN_lt {c : Nat} (h : c < 4294967296) : ∀ j, tN c j < 4294967296
  | 0 => h
  | j + 1 => tB_lt (tN_lt h j)
theorem tB_xor (a b : Nat) : tB (a ^^^ b) = tB a ^^^ tB b := by
  unfold tB
  have h2 : (a ^^^ b) / 2 = a / 2 ^^^ b / 2 := Nat.xor_div_two
  have h1 : (a ^^^ b) % 2 = 1 ↔ ¬ (a % 2 = 1 ↔ b % 2 = 1) := Nat.xor_mod_two_eq_one
  rw [h2]
  by_cases ha : a % 2 = 1
  · by_cases hb : b % 2 = 1
    · rw [if_neg (by rw [h1]; simp [ha, hb]), if_pos ha, if_pos hb]
      generalize a / 2 = x
      generalize b / 2 = y
      rw [Nat.xor_assoc, Nat.xor_comm 2197175160, Nat.xor_assoc y, Nat.xor_self, Nat.xor_zero]
    · rw [if_pos (by rw [h1]; simp [ha, hb]), if_pos ha, if_neg hb]
      rw [Nat.xor_assoc, Nat.xor_assoc, Nat.xor_comm (b / 2)]
  · by_cases hb : b % 2 = 1
    · rw [if_pos (by rw [h1]; simp [ha, hb]), if_neg ha, if_pos hb, Nat.xor_assoc]
    · rw [if_neg (by rw [h1]; simp [ha, hb]), if_neg ha, if_neg hb]
theorem tN_xor (a b : Nat) : ∀ j, tN (a ^^^ b) j = tN a j ^^^ tN b j
  | 0 => rfl
  | j + 1 => by rw [tN, tN, tN, tN_xor a b j, tB_xor]
theorem xor_zero_eq {a b : Nat} (h : a ^^^ b = 0) : a = b := by
  have : a ^^^ b ^^^ b = b := by rw [h, Nat.zero_xor]
  rwa [Nat.xor_assoc, Nat.xor_self, Nat.xor_zero] at this
theorem tB_zero {c : Nat} (h : c < 4294967296) (h0 : tB c = 0) : c = 0 := by
  unfold tB at h0
  split at h0
  · have := xor_zero_eq h0; omega
  · omega
theorem tN_zero {c : Nat} (h : c < 4294967296) : ∀ j, tN c j = 0 → c = 0
  | 0, h0 => h0
  | j + 1, h0 => tN_zero h j (tB_zero (tN_lt h j) h0)
theorem tN_add (c i : Nat) : ∀ j, tN c (i + j) = tN (tN c i) j
  | 0 => rfl
  | j + 1 => by rw [← Nat.add_assoc, tN, tN, tN_add c i j]
theorem tB_two (x : Nat) : tB (2 * x) = x := by unfold tB; rw [if_neg (by omega)]; omega
theorem tN_shift (x : Nat) : ∀ j, tN (2 ^ j * x) j = x
  | 0 => by show 2 ^ 0 * x = x; omega
  | j + 1 => by
    rw [Nat.add_comm j 1, tN_add]
    have : tN (2 ^ (1 + j) * x) 1 = 2 ^ j * x := by
      show tB (2 ^ (1 + j) * x) = _
      rw [Nat.add_comm 1 j, Nat.pow_succ, Nat.mul_comm (2 ^ j) 2, Nat.mul_assoc, tB_two]
    rw [this, tN_shift x j]
/-- Four bytes as a number. -/
def w4 (a b c d : Nat) : Nat := a ^^^ (2 ^ 8 * b) ^^^ (2 ^ 16 * c) ^^^ (2 ^ 24 * d)
/-- The register behind bytes. -/
def rg (c : Nat) : List UInt8 → Nat
  | [] => c
  | b :: l => rg (tN (c ^^^ b.toNat) 8) l
theorem rg_append (c : Nat) (a b : List UInt8) : rg c (a ++ b) = rg (rg c a) b := by
  induction a generalizing c with
  | nil => rfl
  | cons x a ih => exact ih _
theorem rg_lt {c : Nat} (h : c < 4294967296) : ∀ l : List UInt8, rg c l < 4294967296
  | [] => h
  | b :: l => by
    have hb := b.toNat_lt
    exact rg_lt (tN_lt (xor_lt32 h (by omega)) 8) l
theorem rg_xor (c d : Nat) : ∀ l : List UInt8, rg (c ^^^ d) l = rg c l ^^^ tN d (8 * l.length)
  | [] => rfl
  | b :: l => by
    show rg (tN (c ^^^ d ^^^ b.toNat) 8) l = rg (tN (c ^^^ b.toNat) 8) l ^^^ _
    rw [show c ^^^ d ^^^ b.toNat = (c ^^^ b.toNat) ^^^ d by rw [Nat.xor_assoc, Nat.xor_assoc, Nat.xor_comm d], tN_xor, rg_xor _ _ l, List.length_cons, show 8 * (l.length + 1) = 8 + 8 * l.length by omega, tN_add]
theorem rg_four (c : Nat) (x0 x1 x2 x3 : UInt8) : rg c [x0, x1, x2, x3] = tN (c ^^^ w4 x0.toNat x1.toNat x2.toNat x3.toNat) 32 := by
  have h1 := tN_shift x1.toNat 8
  have h2 := tN_shift x2.toNat 16
  have h3 := tN_shift x3.toNat 24
  show tN (tN (tN (tN (c ^^^ x0.toNat) 8 ^^^ x1.toNat) 8 ^^^ x2.toNat) 8 ^^^ x3.toNat) 8 = _
  have e1 : tN (c ^^^ x0.toNat) 8 ^^^ x1.toNat = tN (c ^^^ x0.toNat ^^^ 2 ^ 8 * x1.toNat) 8 := by rw [tN_xor _ (2 ^ 8 * x1.toNat), h1]
  have e2 : tN (tN (c ^^^ x0.toNat) 8 ^^^ x1.toNat) 8 ^^^ x2.toNat = tN (c ^^^ x0.toNat ^^^ 2 ^ 8 * x1.toNat ^^^ 2 ^ 16 * x2.toNat) 16 := by rw [e1, ← tN_add, tN_xor _ (2 ^ 16 * x2.toNat), h2]
  have e3 : tN (tN (tN (c ^^^ x0.toNat) 8 ^^^ x1.toNat) 8 ^^^ x2.toNat) 8 ^^^ x3.toNat = tN (c ^^^ x0.toNat ^^^ 2 ^ 8 * x1.toNat ^^^ 2 ^ 16 * x2.toNat ^^^ 2 ^ 24 * x3.toNat) 24 := by rw [e2, ← tN_add, tN_xor _ (2 ^ 24 * x3.toNat), h3]
  rw [e3, ← tN_add]
  unfold w4
  simp only [Nat.xor_assoc]
theorem xor_add (k a b : Nat) (h : a < 2 ^ k) : a ^^^ 2 ^ k * b = 2 ^ k * b + a := by
  apply Nat.eq_of_testBit_eq
  intro j
  rw [Nat.testBit_xor, Nat.testBit_two_pow_mul_add _ h, Nat.testBit_two_pow_mul]
  by_cases hj : j < k
  · rw [if_pos hj, decide_eq_false (by omega)]; simp
  · rw [if_neg hj, decide_eq_true (by omega), Nat.testBit_lt_two_pow (Nat.lt_of_lt_of_le h (Nat.pow_le_pow_right (by omega) (by omega)))]; simp
theorem w4_of (s : Nat) (h : s < 4294967296) : w4 (s % 256) (s / 256 % 256) (s / 65536 % 256) (s / 16777216 % 256) = s := by
  unfold w4
  rw [xor_add 8 _ _ (by omega), xor_add 16 _ _ (by omega), xor_add 24 _ _ (by omega)]
  omega
theorem w4_xor (a b c d a' b' c' d' : Nat) : w4 (a ^^^ a') (b ^^^ b') (c ^^^ c') (d ^^^ d') = w4 a b c d ^^^ w4 a' b' c' d' := by
  have hm : ∀ k x y : Nat, 2 ^ k * (x ^^^ y) = 2 ^ k * x ^^^ 2 ^ k * y := fun k x y => by
    rw [Nat.mul_comm, Nat.mul_comm _ x, Nat.mul_comm _ y, ← Nat.shiftLeft_eq, ← Nat.shiftLeft_eq, ← Nat.shiftLeft_eq, Nat.shiftLeft_xor_distrib]
  unfold w4
  rw [hm, hm, hm]
  ac_rfl
/-- The sum, in natural numbers. -/
theorem bitStep_nat (c : Nat) (h : c < 4294967296) : bitStep (c : Int) = (tB c : Int) := by
  unfold bitStep tB
  have e : bits .and .u32 (c : Int) 1 = ((c % 2 : Nat) : Int) := by
    have := u32_and_nat c 1 h (by decide)
    rw [Nat.and_one_is_mod] at this
    exact this
  rw [e]
  have e2 : ((c : Int) / 2) = ((c / 2 : Nat) : Int) := by omega
  by_cases hc : c % 2 = 1
  · rw [if_pos hc, if_pos (by rw [hc]; rfl), e2]
    exact u32_xor_nat (c / 2) 2197175160 (by omega) (by decide)
  · rw [if_neg hc, if_neg (by omega), e2]
theorem bitN_nat (c : Nat) (h : c < 4294967296) : ∀ j, bitN (c : Int) j = (tN c j : Int)
  | 0 => rfl
  | j + 1 => by rw [bitN, bitN_nat c h j, bitStep_nat _ (tN_lt h j)]; rfl
theorem stepI_nat (c : Nat) (b : UInt8) (h : c < 4294967296) : stepI (c : Int) (b.toNat : Int) = (tN (c ^^^ b.toNat) 8 : Int) := by
  have hb := b.toNat_lt
  unfold stepI
  rw [show ((b.toNat : Int) % 4294967296) = (b.toNat : Int) by omega, u32_xor_nat c b.toNat h (by omega), bitN_nat _ (xor_lt32 h (by omega))]
theorem sumFrom_nat (c : Nat) (h : c < 4294967296) : ∀ l : List UInt8, sumFrom (c : Int) l = (rg c l : Int)
  | [] => rfl
  | b :: l => by
    have hb := b.toNat_lt
    rw [sumFrom, stepI_nat c b h, sumFrom_nat _ (tN_lt (xor_lt32 h (by omega)) 8) l]; rfl
theorem sumL_nat (l : List UInt8) : sumL l = ((rg 4294967295 l ^^^ 4294967295 : Nat) : Int) := by
  unfold sumL
  have := sumFrom_nat 4294967295 (by decide) l
  rw [show sumFrom 4294967295 l = (rg 4294967295 l : Int) from this]
  exact u32_xor_nat _ 4294967295 (rg_lt (by decide) l) (by decide)
theorem leB_nat (s : Nat) (h : s < 4294967296) : leB (s : Int) 4 = [UInt8.ofNat (s % 256), UInt8.ofNat (s / 256 % 256), UInt8.ofNat (s / 65536 % 256), UInt8.ofNat (s / 16777216 % 256)] := by
  unfold leB
  have e0 : ((s : Int) / 256 ^ 0 % 256).toNat = s % 256 := by rw [show (256 : Int) ^ 0 = 1 from rfl]; omega
  have e1 : ((s : Int) / 256 ^ 1 % 256).toNat = s / 256 % 256 := by rw [show (256 : Int) ^ 1 = 256 from rfl]; omega
  have e2 : ((s : Int) / 256 ^ 2 % 256).toNat = s / 65536 % 256 := by rw [show (256 : Int) ^ 2 = 65536 from rfl]; omega
  have e3 : ((s : Int) / 256 ^ 3 % 256).toNat = s / 16777216 % 256 := by rw [show (256 : Int) ^ 3 = 16777216 from rfl]; omega
  show [_, _, _, _] = _
  dsimp only
  rw [e0, e1, e2, e3]
/-- Sealed bytes leave one register. -/
theorem rg_seal (t : List UInt8) : rg 4294967295 (sealL t) = tN 4294967295 32 := by
  have hr := rg_lt (show 4294967295 < 4294967296 by decide) t
  have hs := xor_lt32 hr (show 4294967295 < 4294967296 by decide)
  unfold sealL
  rw [rg_append, sumL_nat, leB_nat _ hs, rg_four]
  have hb : ∀ n : Nat, (UInt8.ofNat (n % 256)).toNat = n % 256 := fun n => by rw [UInt8.toNat_ofNat']; omega
  rw [hb, hb, hb, hb, w4_of _ hs, ← Nat.xor_assoc, Nat.xor_self, Nat.zero_xor]
/-- Bytes that open leave that register. -/
theorem rg_open {l t : List UInt8} (h : openL l = some t) : rg 4294967295 l = tN 4294967295 32 := by
  unfold openL at h
  split at h
  · cases h
  · split at h
    · rename_i he
      rw [← he]
      exact rg_seal _
    · cases h
/-- A byte of a mask. -/
def mb (m i : Nat) : UInt8 := UInt8.ofNat (m / 256 ^ i % 256)
/-- Bytes of which j from a place on are turned by a mask. -/
def flipJ (l : List UInt8) (k m : Nat) : Nat → List UInt8
  | 0 => l
  | j + 1 => (flipJ l k m j).set (k + j) ((flipJ l k m j).getD (k + j) 0 ^^^ mb m j)
theorem flipJ_len (l : List UInt8) (k m : Nat) : ∀ j, (flipJ l k m j).length = l.length
  | 0 => rfl
  | j + 1 => by rw [flipJ, List.length_set, flipJ_len l k m j]
theorem set_mid (A : List UInt8) (x y : UInt8) (B : List UInt8) (k : Nat) (hk : k = A.length) : (A ++ x :: B).set k y = A ++ y :: B := by subst hk; simp
theorem get_mid (A : List UInt8) (x : UInt8) (B : List UInt8) (k : Nat) (hk : k = A.length) : (A ++ x :: B).getD k 0 = x := by subst hk; simp
theorem flip_four (A B : List UInt8) (b0 b1 b2 b3 : UInt8) (m : Nat) : flipJ (A ++ b0 :: b1 :: b2 :: b3 :: B) A.length m 4 = A ++ (b0 ^^^ mb m 0) :: (b1 ^^^ mb m 1) :: (b2 ^^^ mb m 2) :: (b3 ^^^ mb m 3) :: B := by
  have f1 : flipJ (A ++ b0 :: b1 :: b2 :: b3 :: B) A.length m 1 = A ++ (b0 ^^^ mb m 0) :: b1 :: b2 :: b3 :: B := by
    rw [flipJ, flipJ, get_mid A b0 _ _ (by omega), set_mid A b0 _ _ _ (by omega)]
  have f2 : flipJ (A ++ b0 :: b1 :: b2 :: b3 :: B) A.length m 2 = (A ++ [b0 ^^^ mb m 0]) ++ (b1 ^^^ mb m 1) :: b2 :: b3 :: B := by
    rw [flipJ, f1, show A ++ (b0 ^^^ mb m 0) :: b1 :: b2 :: b3 :: B = (A ++ [b0 ^^^ mb m 0]) ++ b1 :: b2 :: b3 :: B by simp, get_mid _ b1 _ _ (by simp), set_mid _ b1 _ _ _ (by simp)]
  have f3 : flipJ (A ++ b0 :: b1 :: b2 :: b3 :: B) A.length m 3 = (A ++ [b0 ^^^ mb m 0, b1 ^^^ mb m 1]) ++ (b2 ^^^ mb m 2) :: b3 :: B := by
    rw [flipJ, f2, show (A ++ [b0 ^^^ mb m 0]) ++ (b1 ^^^ mb m 1) :: b2 :: b3 :: B = (A ++ [b0 ^^^ mb m 0, b1 ^^^ mb m 1]) ++ b2 :: b3 :: B by simp, get_mid _ b2 _ _ (by simp), set_mid _ b2 _ _ _ (by simp)]
  rw [flipJ, f3, show (A ++ [b0 ^^^ mb m 0, b1 ^^^ mb m 1]) ++ (b2 ^^^ mb m 2) :: b3 :: B = (A ++ [b0 ^^^ mb m 0, b1 ^^^ mb m 1, b2 ^^^ mb m 2]) ++ b3 :: B by simp, get_mid _ b3 _ _ (by simp), set_mid _ b3 _ _ _ (by simp)]
  simp
/-- WHAT IS TURNED WITHIN FOUR BYTES IS NOT OPENED. -/
theorem burst (t : List UInt8) (k m : Nat) (hk : k + 4 ≤ (sealL t).length) (hm : m < 4294967296) (h0 : m ≠ 0) : openL (flipJ (sealL t) k m 4) = none := by
  cases ho : openL (flipJ (sealL t) k m 4) with
  | none => rfl
  | some u =>
    exfalso
    have h1 := rg_open ho
    have h2 := rg_seal t
    have hdec : ∃ b0 b1 b2 b3 B, (sealL t).drop k = b0 :: b1 :: b2 :: b3 :: B := by
      have hl : ((sealL t).drop k).length = (sealL t).length - k := List.length_drop
      match hd : (sealL t).drop k with
      | b0 :: b1 :: b2 :: b3 :: B => exact ⟨b0, b1, b2, b3, B, rfl⟩
      | [] => rw [hd] at hl; simp at hl; omega
      | [_] => rw [hd] at hl; simp at hl; omega
      | [_, _] => rw [hd] at hl; simp at hl; omega
      | [_, _, _] => rw [hd] at hl; simp at hl; omega
    obtain ⟨b0, b1, b2, b3, B, hd⟩ := hdec
    have hs : sealL t = (sealL t).take k ++ b0 :: b1 :: b2 :: b3 :: B := by rw [← hd, List.take_append_drop]
    have hkl : ((sealL t).take k).length = k := by rw [List.length_take]; omega
    generalize (sealL t).take k = A at *
    subst hkl
    rw [hs] at h1 h2
    rw [flip_four] at h1
    have c4 : ∀ (x y z w : UInt8), A ++ x :: y :: z :: w :: B = A ++ ([x, y, z, w] ++ B) := fun x y z w => by simp
    rw [c4, rg_append, rg_append, rg_four] at h1 h2
    have hx : ∀ a b : UInt8, (a ^^^ b).toNat = a.toNat ^^^ b.toNat := fun a b => UInt8.toNat_xor a b
    rw [hx, hx, hx, hx, w4_xor, ← Nat.xor_assoc, tN_xor, rg_xor, h2] at h1
    have h3 : tN (tN (w4 (mb m 0).toNat (mb m 1).toNat (mb m 2).toNat (mb m 3).toNat) 32) (8 * B.length) = 0 := by
      have := congrArg (fun z => tN 4294967295 32 ^^^ z) h1
      rwa [← Nat.xor_assoc, Nat.xor_self, Nat.zero_xor] at this
    have hb : ∀ n : Nat, (UInt8.ofNat (n % 256)).toNat = n % 256 := fun n => by rw [UInt8.toNat_ofNat']; omega
    have hw : w4 (mb m 0).toNat (mb m 1).toNat (mb m 2).toNat (mb m 3).toNat = m := by
      unfold mb
      rw [hb, hb, hb, hb]
      have := w4_of m hm
      simpa using this
    rw [hw, ← tN_add] at h3
    exact h0 (tN_zero hm _ h3)
/-- A mask of zeros turns nothing. -/
theorem flip_zero (l : List UInt8) (k : Nat) : ∀ j, flipJ l k 0 j = l
  | 0 => rfl
  | j + 1 => by
    have hz : mb 0 j = 0 := by unfold mb; rw [Nat.zero_div]; rfl
    rw [flipJ, flip_zero l k j, hz, UInt8.xor_zero]
    by_cases h : k + j < l.length
    · rw [List.getD_eq_getElem?_getD, List.getElem?_eq_getElem h, Option.getD_some, List.set_getElem_self]
    · rw [List.set_eq_of_length_le (by omega)]
end Go.Proofs.YtdengmlidckkeaaGreatDoor
namespace Go.Proofs.YtdengmlidckkeaaGreatDoor
open Go Go.RowKit
set_option maxRecDepth 10000 in
set_option maxHeartbeats 1000000 in
theorem read_po {o : PO} (h : o.ok) (l : List UInt8) (hl : l.length ≤ 1000) (w : World) :
    Calls Tryz.prog 27 #[.string ⟨(packO o ++ l).toArray⟩] w fun e w' => e = .returned (.tuple #[poVal o, .int .i64 (packO o).length, .int .i64 0]) ∧ Same w w' := by
  refine opq fun Rr HR => ?_
  have hpl := packO_len h
  have HOf := Lib.hid (of_any (packO o ++ l) w)
  have HOr := Lib.hid (fun E R sh u bad w hS h1 h2 => po_order h E R l sh u bad w hS h1 h2)
  have hbs := bytes_size (packO o ++ l)
  have hal : (packO o ++ l).length = (packO o).length + l.length := List.length_append
  obtain ⟨T, x, hv⟩ := poVal_iface o
  rw [hv] at HOr HR
  clear hv
  generalize hA : packO o ++ l = A at *
  have HA := Lib.hid hA
  clear hA
  generalize (packO o).length = p at *
  go_enter Tryz.func27, Tryz.ntmps27
  go_wp2_with fail
  refine HOf.out.mono ?_
  rintro e w1 ⟨rfl, hB, M1⟩
  have KB := Lib.hid hB
  have K1 := Lib.hid M1
  have hwl : w.heap.size < w1.heap.size := hB.lt
  clear M1 hB HOf
  go_wp2_with fail
  have ES := Lib.hid (show EyeS (w1.alloc (.cells #[rptr w.heap.size, .int .i64 0, .bool false] 124)) w1.heap.size w.heap.size A false 0 false from ⟨Blk.new w1 _ _, KB.out.alloc _, by omega⟩)
  have K3 := Lib.hid (K1.out.alloc (.cells #[rptr w.heap.size, .int .i64 0, .bool false] 124))
  generalize w1.alloc _ = W at *
  generalize hE : w1.heap.size = E at *
  generalize hR : w.heap.size = R at *
  refine (HOr.out E R false 0 false W ES.out (by omega) (by omega)).mono ?_
  rintro e w2 ⟨rfl, h1, h2⟩
  rw [Int.zero_add] at h1
  have P1 := Lib.hid h1
  have P2 := Lib.hid (K3.out.then_ h2 (fun i hi q => by rcases q with q | q <;> omega))
  have hc := h1.eye.cell
  have hlt := h1.eye.lt
  clear h1 h2 K3 ES KB K1 HOr HA
  have hpa : decide ((A.length : Int) < (p : Int)) = false := decide_eq_false (by omega)
  go_wp2_with fail
  go_big_quiet (fail)
  go_wp2
  exact HR.out _ _ ⟨rfl, P2.out.drewN _⟩
end Go.Proofs.YtdengmlidckkeaaGreatDoor
namespace Go.Proofs.YtdengmlidckkeaaGreatDoor
open Go Go.RowKit
theorem ok9 : PO.ok ⟨9, []⟩ := .inl ⟨rfl, rfl⟩
theorem ok1 : PO.ok ⟨1, [5]⟩ := .inr ⟨.inl rfl, 5, by unfold I64; omega, rfl⟩
theorem ok4 : PO.ok ⟨4, [1]⟩ := .inr ⟨.inr (.inl rfl), 1, by unfold I64; omega, rfl⟩
theorem pack9 : packO ⟨9, []⟩ = [10] := by decide
theorem pack1 : packO ⟨1, [5]⟩ = [2, 5, 0, 0, 0, 0, 0, 0, 0] := by decide
theorem pack4 : packO ⟨4, [1]⟩ = [5, 1, 0, 0, 0, 0, 0, 0, 0] := by decide
theorem two_new (w : World) (x y : Value) (t : TypeId) : ∀ i o, [x, y][i]? = some o → (w.alloc (.cells #[x, y] t)).cell? ⟨w.heap.size, 0 + i, none⟩ = some o := by
  intro i o h
  match i, h with
  | 0, h => simp at h; subst h; simp
  | 1, h => simp at h; subst h; simp
set_option maxRecDepth 10000 in
set_option maxHeartbeats 1000000 in
theorem awake_any (w : World) (hT : TabOK w) : Calls Tryz.prog 19 #[] w fun e w' => e = .returned (.bool true) ∧ Same w w' := by
  refine opq fun R HR => ?_
  have HT := Lib.hid hT
  have H1 := Lib.hid (fun w hT => show Calls Tryz.prog 22 #[.iface 68 (.agg #[])] w fun e w' => e = .returned (.tuple #[.string ⟨#[10]⟩, .int .i64 0]) ∧ Same w w' from bytes_po ok9 w hT)
  have H2 := Lib.hid (fun w => show Calls Tryz.prog 27 #[.string ⟨#[2, 5, 0, 0, 0, 0, 0, 0, 0, 114, 101, 115, 116]⟩] w fun e w' => e = .returned (.tuple #[.iface 79 (.agg #[.int .i64 5]), .int .i64 9, .int .i64 0]) ∧ Same w w' from read_po ok1 [114, 101, 115, 116] (by decide) w)
  have hL : ∀ o ∈ ([⟨9, []⟩, ⟨4, [1]⟩] : List PO), o.ok := by
    intro o ho; simp at ho; rcases ho with rfl | rfl
    · exact ok9
    · exact ok4
  have hlen : (sealL (allL [⟨9, []⟩, ⟨4, [1]⟩])).length = 16 := by rw [sealL_len]; decide
  have H3 := Lib.hid (fun b o0 c w hT hb hc => all_po [⟨9, []⟩, ⟨4, [1]⟩] hL b o0 2 c rfl (by decide) (by decide) w hT hb hc)
  have H4 := Lib.hid (fun w => parse_po [⟨9, []⟩, ⟨4, [1]⟩] hL 2 rfl (by decide) w)
  have H5 := Lib.hid (fun w => bytes_nil w)
  have H6 := Lib.hid (fun w hT => show Calls Tryz.prog 31 #[.iface 79 (.agg #[.int .i64 5]), .iface 79 (.agg #[.int .i64 5])] w fun e w' => e = .returned (.bool true) ∧ Same w w' from alike_po ok1 w hT)
  have H7 := Lib.hid (fun w hT => show Calls Tryz.prog 31 #[.iface 83 (.agg #[.int .i64 1]), .iface 83 (.agg #[.int .i64 1])] w fun e w' => e = .returned (.bool true) ∧ Same w w' from alike_po ok4 w hT)
  have hsz := bytes_size (sealL (allL [⟨9, []⟩, ⟨4, [1]⟩]))
  rw [hlen] at hsz
  generalize sealL (allL [⟨9, []⟩, ⟨4, [1]⟩]) = S at *
  clear hlen hL hT
  go_enter Tryz.func19, Tryz.ntmps19
  go_wp2_with fail
  refine (H1.out _ HT.out).mono ?_
  rintro e w1 ⟨rfl, M1⟩
  have K1 := Lib.hid M1
  clear M1 H1
  go_wp2_with fail
  refine (H2.out _).mono ?_
  rintro e w2 ⟨rfl, M2⟩
  have K2 := Lib.hid (K1.out.same M2)
  clear M2 H2 K1
  go_wp2_with fail
  refine (H3.out w2.heap.size 0 2 _ (tab_same HT.out (K2.out.alloc _)) (by simp) (fun i o h => two_new w2 (.iface 68 (.agg #[])) (.iface 83 (.agg #[.int .i64 1])) 24 i (poVal o) (by rw [show [(Value.iface 68 (.agg #[]) : Value), .iface 83 (.agg #[.int .i64 1])] = ([⟨9, []⟩, ⟨4, [1]⟩] : List PO).map poVal from rfl, List.getElem?_map, h]; rfl))).mono ?_
  rintro e w3 ⟨rfl, M3⟩
  have K3 := Lib.hid ((K2.out.alloc (.cells #[.iface 68 (.agg #[]), .iface 83 (.agg #[.int .i64 1])] 24)).same M3)
  clear M3 H3 K2
  go_wp2_with fail
  refine (H4.out _).mono ?_
  rintro e w4 ⟨a, c, rfl, hl, M4⟩
  obtain ⟨b, o, rfl, hb, hc⟩ := hl (by decide)
  have hc1 := hc 1 ⟨4, [1]⟩ rfl
  have K4 := Lib.hid (K3.out.same M4)
  have KC := Lib.hid (show w4.cell? ⟨b, o + 1, none⟩ = some (.iface 83 (.agg #[.int .i64 1])) from hc1)
  clear M4 H4 K3 hl hc hc1
  go_wp2_with fail
  refine (H5.out _).mono ?_
  rintro e w5 ⟨rfl, M5⟩
  have K5 := Lib.hid (K4.out.same M5)
  have KC5 := Lib.hid ((M5.cell hb (fun q => q) _).trans KC.out)
  have hb5 : b < w5.heap.size := Nat.lt_of_lt_of_le hb M5.size
  clear M5 H5 K4 KC hb
  go_wp2_with fail
  refine (H6.out _ (tab_same HT.out K5.out)).mono ?_
  rintro e w6 ⟨rfl, M6⟩
  have K6 := Lib.hid (K5.out.same M6)
  have hc6 := (M6.cell hb5 (fun q => q) _).trans KC5.out
  have hb6 : b < w6.heap.size := Nat.lt_of_lt_of_le hb5 M6.size
  clear M6 H6 K5 KC5 hb5
  go_wp2_with fail
  refine (H7.out _ (tab_same HT.out K6.out)).mono ?_
  rintro e w7 ⟨rfl, M7⟩
  have K7 := Lib.hid (K6.out.same M7)
  clear M7 H7 K6 hc6
  go_wp2
  exact HR.out _ _ ⟨rfl, K7.out⟩
end Go.Proofs.YtdengmlidckkeaaGreatDoor
namespace Go.Proofs.YtdengmlidckkeaaGreatDoor
open Go Go.RowKit
/-- A row of bytes of the call's own. -/
structure BR (w : World) (g : Nat) (l : List UInt8) : Prop where
  lt : g < w.heap.size
  cell : ∀ i, i < l.length → w.cell? ⟨g, i, none⟩ = some (.int .u8 ((l.getD i 0).toNat : Int))
  free : ∀ i, i < l.length → w.frozen? ⟨g, i, none⟩ = false
theorem BR.mod {w w' : World} {g : Nat} {l : List UInt8} {S : Nat → Prop} (h : BR w g l) (M : Mod S w w') (hs : ¬ S g) : BR w' g l :=
  ⟨Nat.lt_of_lt_of_le h.lt M.size, fun i hi => (M.cell h.lt hs i).trans (h.cell i hi), fun i hi => (M.frozen h.lt hs i).trans (h.free i hi)⟩
theorem BR.set {w : World} {g : Nat} {l : List UInt8} (h : BR w g l) (i : Nat) (hi : i < l.length) (b : UInt8) : BR (w.setCell ⟨g, i, none⟩ (.int .u8 (b.toNat : Int))) g (l.set i b) :=
  ⟨by simp only [World.size_setCell]; exact h.lt, fun j hj => by
    rw [List.length_set] at hj
    by_cases hij : i = j
    · subst hij
      rw [World.cell?_setCell_same _ _ _ (h.cell i hi), List.getD_eq_getElem?_getD, List.getElem?_set_self hi]; rfl
    · rw [World.cell?_setCell_other _ _ _ _ (fun e => hij (by injection e)), h.cell j hj, List.getD_eq_getElem?_getD, List.getD_eq_getElem?_getD, List.getElem?_set_ne hij],
    fun j hj => by rw [List.length_set] at hj; exact (frozen_setCell _ _ _ _).trans (h.free j hj)⟩
theorem BR.new (w : World) (l : List UInt8) : BR (Lib.bytesWorld w 5 ⟨l.toArray⟩) w.heap.size l :=
  ⟨by rw [Lib.bytesWorld_size]; omega, fun i hi => Lib.bytesWorld_cell w 5 ⟨l.toArray⟩ i (by rw [bytes_size]; exact hi), fun i hi => by
    have hn := Lib.bytesWorld_at_new w 5 ⟨l.toArray⟩
    have hs : l.length ≤ (Lib.bytesCells w 5 ⟨l.toArray⟩).size := by unfold Lib.bytesCells; simp
    unfold World.frozen?
    dsimp only
    rw [hn]
    simp; omega⟩
theorem BR.drew {w : World} {g : Nat} {l : List UInt8} (h : BR w g l) : BR w.drew g l := ⟨h.lt, h.cell, h.free⟩
/-- How far two lists of orders are the same. -/
def smK (L M : List OW) (k : Nat) : Bool := decide (L.length = M.length) && decide (L.take k = M.take k)
theorem smK_zero (L M : List OW) : smK L M 0 = decide (L.length = M.length) := by unfold smK; simp
theorem smK_succ (L M : List OW) (k : Nat) (o p : OW) (ho : L[k]? = some o) (hp : M[k]? = some p) (h : smK L M k = true) : smK L M (k + 1) = decide (o = p) := by
  unfold smK at h ⊢
  rw [Bool.and_eq_true] at h
  have h2 : L.take k = M.take k := of_decide_eq_true h.2
  rw [h.1, Bool.true_and]
  obtain ⟨ha, hb⟩ := take_eq_succ L M k o p ho hp h2
  by_cases e : o = p
  · rw [decide_eq_true e, decide_eq_true (ha e)]
  · rw [decide_eq_false e, decide_eq_false]
    intro q
    have e1 := List.take_succ_eq_append_getElem (List.getElem?_eq_some_iff.1 ho).1
    have e2 := List.take_succ_eq_append_getElem (List.getElem?_eq_some_iff.1 hp).1
    rw [e1, e2, h2] at q
    have q2 := List.append_cancel_left q
    obtain ⟨_, h3⟩ := List.getElem?_eq_some_iff.1 ho
    obtain ⟨_, h4⟩ := List.getElem?_eq_some_iff.1 hp
    rw [h3, h4] at q2
    exact e (List.cons.inj q2).1
theorem smK_false (L M : List OW) (k : Nat) (h : smK L M k = false) : smK L M (k + 1) = false := by
  unfold smK at h ⊢
  rw [Bool.and_eq_false_iff] at h ⊢
  rcases h with h | h
  · exact .inl h
  · refine .inr (decide_eq_false fun q => ?_)
    have := of_decide_eq_false h
    apply this
    have q2 := congrArg (List.take k) q
    rw [List.take_take, List.take_take] at q2
    rwa [show min k (k + 1) = k by omega] at q2
theorem smK_all (L M : List OW) (k : Nat) (hk : L.length ≤ k) : smK L M k = decide (L = M) := by
  unfold smK
  by_cases e : L = M
  · subst e; simp
  · rw [decide_eq_false e]
    by_cases hl : L.length = M.length
    · rw [List.take_of_length_le hk, List.take_of_length_le (by omega), decide_eq_false e]; simp
    · simp [hl]
theorem smK_len {L M : List OW} {k : Nat} (h : smK L M k = true) : L.length = M.length := by
  unfold smK at h
  rw [Bool.and_eq_true] at h
  exact of_decide_eq_true h.1
theorem seal_inj {L M : List OW} (hL : ∀ o ∈ L, o.form ∧ o.fits = true) (hM : ∀ o ∈ M, o.form ∧ o.fits = true) (h1 : L.length ≤ 400) (h2 : M.length ≤ 400) : (sealL (allW L) == sealL (allW M)) = decide (L = M) := by
  by_cases h : L = M
  · subst h; simp
  · rw [decide_eq_false h]
    have : ¬ sealL (allW L) = sealL (allW M) := fun e => by
      have a := parseK_back L hL h1
      rw [e, parseK_back M hM h2] at a
      exact h (Option.some.inj a).symm
    simpa using this
theorem xor_mb (c : UInt8) (m j : Nat) : bits .xor .u8 (c.toNat : Int) (((m / 256 ^ j % 256 : Nat)) : Int) = (((c ^^^ mb m j).toNat : Nat) : Int) := by
  have hc := c.toNat_lt
  have hb : (mb m j).toNat = m / 256 ^ j % 256 := by unfold mb; rw [UInt8.toNat_ofNat']; omega
  rw [UInt8.toNat_xor, hb]
  exact u8_xor_nat _ _ hc (by omega)
theorem flip_next (l : List UInt8) (k m j : Nat) : flipJ l k m (j + 1) = (flipJ l k m j).set (k + j) ((flipJ l k m j).getD (k + j) 0 ^^^ mb m j) := rfl
set_option maxRecDepth 10000 in
set_option maxHeartbeats 8000000 in
theorem packBack_walk (la lb : List (List UInt8)) (aa ab : Option Addr) (na nb ca cb : Nat) (hna : la.length = na) (hnb : lb.length = nb) (z : Int) (m : Nat) (hm : m < 4294967296) (w : World) (hL : LibOK w) (hra : RowAt w aa (la.map strV)) (hrb : RowAt w ab (lb.map strV)) :
    Calls Tryz.prog 5 #[.slice aa na ca, .slice ab nb cb, .int .i64 z, .int .u32 (m : Int)] w fun e w' => e = .returned (.bool true) ∧ Same w w' := by
  refine opq fun R HR => ?_
  have HL := Lib.hid hL
  have HT := Lib.hid hL.tab
  have HA := Lib.hid (fun (w : World) (hT : TabOK w) => awake_any w hT)
  have HO1 := Lib.hid (fun (w : World) (hL : LibOK w) (hr : RowAt w aa (la.map strV)) => orders_any la aa na ca hna w hL hr)
  have HO2 := Lib.hid (fun (w : World) (hL : LibOK w) (hr : RowAt w ab (lb.map strV)) => orders_any lb ab nb cb hnb w hL hr)
  have HRa := Lib.hid hra
  have HRb := Lib.hid hrb
  have lL := orders_len la
  have lM := orders_len lb
  have fL := orders_form la
  have fM := orders_form lb
  clear hL hna hnb hra hrb
  generalize ordersL la = L at *
  generalize ordersL lb = M at *
  have HFL := Lib.hid fL
  have HFM := Lib.hid fM
  have hSl := allW_len L fL
  have HPa := Lib.hid (fun w => parse_all (sealL (allW L)) (by rw [sealL_len]; omega) w)
  rw [parseK_back L fL (by omega)] at HPa
  have HAll1 := Lib.hid (fun a n c (hn : L.length = n) (hn4 : n ≤ 400) w hT hc => all_ow L fL a n c hn hn4 w hT hc)
  have HAll2 := Lib.hid (fun a n c (hn : M.length = n) (hn4 : n ≤ 400) w hT hc => all_ow M fM a n c hn hn4 w hT hc)
  have hst := seal_inj fL fM (by omega) (by omega)
  have HBu := Lib.hid (fun k hk h0 => burst (allW L) k m hk hm h0)
  have HBk := Lib.hid (parseK_back L fL (by omega))
  have hS6 : 6 ≤ (sealL (allW L)).length := by rw [sealL_len]; unfold allW; rw [List.length_append, leB_len]; omega
  have hS7 : (sealL (allW L)).length ≤ 50000 := by rw [sealL_len]; omega
  have hbS := bytes_size (sealL (allW L))
  clear fL fM hSl
  generalize sealL (allW L) = S at *
  generalize sealL (allW M) = Q at *
  obtain ⟨nl, hnl⟩ : ∃ nl, L.length = nl := ⟨_, rfl⟩
  obtain ⟨ml, hml⟩ : ∃ ml, M.length = ml := ⟨_, rfl⟩
  have HNl := Lib.hid hnl
  have HMl := Lib.hid hml
  obtain ⟨sl, hsl⟩ : ∃ sl, S.length = sl := ⟨_, rfl⟩
  have HSl := Lib.hid hsl
  rw [hsl] at hS6 hS7 hbS
  rw [hnl] at HO1 lL
  rw [hml] at HO2 lM
  unfold ParseR at HPa
  dsimp only at HPa
  rw [hnl] at HPa
  clear hnl hml hsl
  go_enter Tryz.func5, Tryz.ntmps5
  go_wp2_with fail
  refine (HA.out _ HT.out).mono ?_
  rintro e w1 ⟨rfl, M1⟩
  have K1 := Lib.hid M1
  clear M1 HA
  go_wp2_with fail
  refine (HO1.out _ (HL.out.same K1.out) (HRa.out.same K1.out)).mono ?_
  rintro e w2 ⟨a1, c1, rfl, r1, M2⟩
  have K2 := Lib.hid (K1.out.same M2)
  have R1 := Lib.hid r1
  clear M2 r1 HO1 HRa
  go_wp2_with fail
  refine (HO2.out _ (HL.out.same K2.out) (HRb.out.same K2.out)).mono ?_
  rintro e w3 ⟨a2, c2, rfl, r2, M3⟩
  have K3 := Lib.hid (K2.out.same M3)
  have R1b := Lib.hid (R1.out.same M3)
  have R2 := Lib.hid r2
  clear M3 r2 HO2 HRb R1 K1
  go_wp2_with fail
  refine (HAll1.out a1 nl c1 HNl.out (by omega) _ (tab_same HT.out K3.out) R1b.out).mono ?_
  rintro e w4 ⟨rfl, M4⟩
  have K4 := Lib.hid (K3.out.same M4)
  have R1 := Lib.hid (R1b.out.same M4)
  have R2b := Lib.hid (R2.out.same M4)
  clear M4 HAll1 R1b R2 K2
  go_wp2_with fail
  refine (HAll2.out a2 ml c2 HMl.out (by omega) _ (tab_same HT.out K4.out) R2b.out).mono ?_
  rintro e w5 ⟨rfl, M5⟩
  have K4b := Lib.hid (K4.out.same M5)
  have R1b := Lib.hid (R1.out.same M5)
  have R2 := Lib.hid (R2b.out.same M5)
  clear M5 HAll2 R1 R2b K3
  go_wp2_with fail
  refine (HPa.out _).mono ?_
  rintro e w6 ⟨⟨a3, c3, rfl, r3⟩, M6⟩
  have K5 := Lib.hid (K4b.out.same M6)
  have R1 := Lib.hid (R1b.out.same M6)
  have R2b := Lib.hid (R2.out.same M6)
  have R3 := Lib.hid r3
  clear M6 r3 HPa R1b R2 K4 K4b
  have hs0 := smK_zero L M
  rw [HNl.out, HMl.out] at hs0
  have hdec : ((nl : Int) == (ml : Int)) = smK L M 0 := by
    rw [hs0]
    by_cases e : nl = ml
    · subst e; simp
    · have : ¬ (nl : Int) = (ml : Int) := by omega
      simp [e, this]
  clear hs0
  go_wp2_with fail
  clear hdec
  go_loopw [17, 18] (fun b i wr => ∃ k : Nat, k ≤ nl ∧ i = .int .i64 (k : Int) ∧ b = .bool (smK L M k) ∧ Same w6 wr) (fun _ i _ => nl - (intOf i).toNat)
  case atStart => exact ⟨0, by omega, rfl, rfl, Mod.refl _ _⟩
  case round =>
    obtain ⟨k, hk, rfl, rfl, hM⟩ := hrel
    have L2 := Lib.hid hM
    have hszr := hM.size
    clear hM
    by_cases hlt : k < nl
    · obtain ⟨o, ho⟩ : ∃ o, L[k]? = some o := ⟨_, List.getElem?_eq_getElem (by rw [HNl.out]; exact hlt)⟩
      have hok := HFL.out o (List.mem_of_getElem? ho)
      obtain ⟨bx, ox, rfl, hbx0, hccx⟩ := R3.out (by rw [List.length_map, HNl.out]; omega)
      obtain ⟨bl, ol, rfl, hbl0, hccl⟩ := R1.out (by rw [List.length_map, HNl.out]; omega)
      have hcx := (L2.out.cell hbx0 (fun q => q) (ox + k)).trans (hccx k (ordW o) (by rw [List.getElem?_map, ho]; rfl))
      have hcl := (L2.out.cell hbl0 (fun q => q) (ol + k)).trans (hccl k (ordW o) (by rw [List.getElem?_map, ho]; rfl))
      have hbx : bx < wr.heap.size := by omega
      have hbl : bl < wr.heap.size := by omega
      have HAl := Lib.hid (fun w hT => alike_ow o o hok.1 hok.1 hok.2 hok.2 w hT)
      rw [decide_eq_true (show o = o from rfl)] at HAl
      have HBy := Lib.hid (bytes_ok o hok.1 hok.2)
      have hpl := packW_len o hok.1 hok.2
      have HRd := Lib.hid (fun w => read_all (packW o ++ S) (by rw [List.length_append, HSl.out]; omega) w)
      have hrv : readV (packW o ++ S) = .tuple #[ordW o, .int .i64 ((packW o).length : Int), .int .i64 0] := by
        unfold readV
        rw [gOrd_back o hok.1 hok.2]
        dsimp only
        rw [List.length_append, show (((packW o).length + S.length : Nat) : Int) - (S.length : Int) = ((packW o).length : Int) by omega]
      rw [hrv] at HRd
      have hbp := bytes_size (packW o)
      have EAp := Lib.hid (str_app (packW o) S)
      have HAm0 := Lib.hid (fun p (hp : p.form ∧ p.fits = true) w hT => alike_ow o p hok.1 hp.1 hok.2 hp.2 w hT)
      have HOO := Lib.hid ho
      have hk1 : (0 : Int) ≤ (k : Int) := by omega
      have hk2 : (k : Int) < (nl : Int) := by omega
      clear hrv hccx hccl
      obtain ⟨T, v, hv⟩ := ordW_if o
      rw [hv] at hcx hcl HAl HBy HRd HAm0
      clear hv ho hok
      generalize packW o = pu at *
      go_wp2_with fail

      refine wp_region_held_drew (S := fun w' => Same wr w') (by kernel_rfl) (by (try dsimp only); exact (Mod.refl _ _).drew) (fun hHeld => ?_)
      refine wpAnyH_take (i := 0) (v := ?_) rfl (by kernel_rfl) (by kernel_rfl) (by kernel_rfl) (fun _ _ _ h => h) (Or.inl ⟨by rfl, ?_⟩) (by assumption) ?_
      rotate_left
      · intro w hSw
        try dsimp only at hSw
        go_simp
        try with_reducible rfl
      try simp only [List.getElem_toArray, List.getElem_cons_succ, List.getElem_cons_zero, Act.put, List.setIfInBounds_toArray, List.set_cons_zero, List.set_cons_succ]
      refine wpAnyH_take (i := 1) (v := ?_) rfl (by kernel_rfl) (by kernel_rfl) (by kernel_rfl) (fun _ _ _ h => h) (Or.inl ⟨by rfl, ?_⟩) (by assumption) ?_
      rotate_left
      · intro w hSw
        try dsimp only at hSw
        go_simp
        try with_reducible rfl
      try simp only [List.getElem_toArray, List.getElem_cons_succ, List.getElem_cons_zero, Act.put, List.setIfInBounds_toArray, List.set_cons_zero, List.set_cons_succ]
      refine wpAnyH_take (i := 2) (v := ?_) rfl (by kernel_rfl) (by kernel_rfl) (by kernel_rfl) (fun _ _ _ h => h) (Or.inl ⟨by rfl, ?_⟩) (by assumption) ?_
      rotate_left
      · intro w hSw
        try dsimp only at hSw
        go_simp
        try with_reducible rfl
      try simp only [List.getElem_toArray, List.getElem_cons_succ, List.getElem_cons_zero, Act.put, List.setIfInBounds_toArray, List.set_cons_zero, List.set_cons_succ]
      refine wpAnyH_take (i := 3) (v := ?_) rfl (by kernel_rfl) (by kernel_rfl) (by kernel_rfl) (fun _ _ _ h => h) (Or.inl ⟨by rfl, ?_⟩) (by assumption) ?_
      rotate_left
      · intro w hSw
        try dsimp only at hSw
        have g1 := (hSw.cell hbx (fun q => q) (ox + k)).trans hcx
        go_simp
        try with_reducible rfl
      try simp only [List.getElem_toArray, List.getElem_cons_succ, List.getElem_cons_zero, Act.put, List.setIfInBounds_toArray, List.set_cons_zero, List.set_cons_succ]
      refine wpAnyH_take (i := 4) (v := ?_) rfl (by kernel_rfl) (by kernel_rfl) (by kernel_rfl) (fun _ _ _ h => h) (Or.inl ⟨by rfl, ?_⟩) (by assumption) ?_
      rotate_left
      · intro w hSw
        try dsimp only at hSw
        go_simp
        try with_reducible rfl
      try simp only [List.getElem_toArray, List.getElem_cons_succ, List.getElem_cons_zero, Act.put, List.setIfInBounds_toArray, List.set_cons_zero, List.set_cons_succ]
      refine wpAnyH_take (i := 5) (v := ?_) rfl (by kernel_rfl) (by kernel_rfl) (by kernel_rfl) (fun _ _ _ h => h) (Or.inl ⟨by rfl, ?_⟩) (by assumption) ?_
      rotate_left
      · intro w hSw
        try dsimp only at hSw
        go_simp
        try with_reducible rfl
      try simp only [List.getElem_toArray, List.getElem_cons_succ, List.getElem_cons_zero, Act.put, List.setIfInBounds_toArray, List.set_cons_zero, List.set_cons_succ]
      refine wpAnyH_take (i := 6) (v := ?_) rfl (by kernel_rfl) (by kernel_rfl) (by kernel_rfl) (fun _ _ _ h => h) (Or.inl ⟨by rfl, ?_⟩) (by assumption) ?_
      rotate_left
      · intro w hSw
        try dsimp only at hSw
        go_simp
        try with_reducible rfl
      try simp only [List.getElem_toArray, List.getElem_cons_succ, List.getElem_cons_zero, Act.put, List.setIfInBounds_toArray, List.set_cons_zero, List.set_cons_succ]
      refine wpAnyH_take (i := 7) (v := ?_) rfl (by kernel_rfl) (by kernel_rfl) (by kernel_rfl) (fun _ _ _ h => h) (Or.inl ⟨by rfl, ?_⟩) (by assumption) ?_
      rotate_left
      · intro w hSw
        try dsimp only at hSw
        have g2 := (hSw.cell hbl (fun q => q) (ol + k)).trans hcl
        go_simp
        try with_reducible rfl
      try simp only [List.getElem_toArray, List.getElem_cons_succ, List.getElem_cons_zero, Act.put, List.setIfInBounds_toArray, List.set_cons_zero, List.set_cons_succ]
      refine wpAnyH_ready (rs := [8]) (by kernel_rfl) (by simp) ?_
      refine AllReadyH.cons rfl (fun Kc hKc => ?_) AllReadyH.nil
      go_simp
      refine (HAl.out _ (tab_same HT.out (K5.out.same L2.out).drew)).mono ?_
      rintro e wA ⟨rfl, MA⟩
      have AA := Lib.hid ((Mod.refl (fun _ => False) wr).drew.same MA)
      clear MA
      go_wp2_with fail
      refine hKc.out _ _ (by (try dsimp only); exact AA.out) (fun hHeld => ?_)
      clear hKc Kc
      try simp only [List.getElem_toArray, List.getElem_cons_succ, List.getElem_cons_zero, Act.put, List.setIfInBounds_toArray, List.set_cons_zero, List.set_cons_succ]
      refine wpAnyH_take (i := 9) (v := ?_) rfl (by kernel_rfl) (by kernel_rfl) (by kernel_rfl) (fun _ _ _ h => h) (Or.inl ⟨by rfl, ?_⟩) (by assumption) ?_
      rotate_left
      · intro w hSw
        try dsimp only at hSw
        go_simp
        try with_reducible rfl
      try simp only [List.getElem_toArray, List.getElem_cons_succ, List.getElem_cons_zero, Act.put, List.setIfInBounds_toArray, List.set_cons_zero, List.set_cons_succ]
      refine wpAnyH_done (by kernel_rfl) ?_ _
      have hclA := (AA.out.cell hbl (fun q => q) (ol + k)).trans hcl
      have hblA : bl < wA.heap.size := Nat.lt_of_lt_of_le hbl AA.out.size
      clear hcx
      cases hsk : smK L M k with
      | true =>
        have hlm : nl = ml := by have := smK_len hsk; rw [HNl.out, HMl.out] at this; exact this
        obtain ⟨p, hp⟩ : ∃ p, M[k]? = some p := ⟨_, List.getElem?_eq_getElem (by rw [HMl.out]; omega)⟩
        have hpk := HFM.out p (List.mem_of_getElem? hp)
        obtain ⟨bm, om, rfl, hbm0, hccm⟩ := R2b.out (by rw [List.length_map, HMl.out]; omega)
        have hcmA := ((L2.out.same AA.out).cell hbm0 (fun q => q) (om + k)).trans (hccm k (ordW p) (by rw [List.getElem?_map, hp]; rfl))
        have hbmA : bm < wA.heap.size := by have := AA.out.size; omega
        have HAm := Lib.hid (HAm0.out p hpk)
        have ESm := Lib.hid (smK_succ L M k o p HOO.out hp hsk)
        have hk3 : (k : Int) < (ml : Int) := by omega
        obtain ⟨T2, v2, hv2⟩ := ordW_if p
        rw [hv2] at hcmA HAm
        clear hv2 hp hpk hccm hsk HAm0 HOO hlm
        generalize decide (o = p) = dop at *
        go_wp2_with fail
        refine wp_region_held_drew (S := fun w' => Same wA w') (by kernel_rfl) (by (try dsimp only); exact (Mod.refl _ _).drew) (fun hHeld => ?_)
        refine wpAnyH_take (i := 0) (v := ?_) rfl (by kernel_rfl) (by kernel_rfl) (by kernel_rfl) (fun _ _ _ h => h) (Or.inl ⟨by rfl, ?_⟩) (by assumption) ?_
        rotate_left
        · intro w hSw
          try dsimp only at hSw
          go_simp
          try with_reducible rfl
        try simp only [List.getElem_toArray, List.getElem_cons_succ, List.getElem_cons_zero, Act.put, List.setIfInBounds_toArray, List.set_cons_zero, List.set_cons_succ]
        refine wpAnyH_take (i := 1) (v := ?_) rfl (by kernel_rfl) (by kernel_rfl) (by kernel_rfl) (fun _ _ _ h => h) (Or.inl ⟨by rfl, ?_⟩) (by assumption) ?_
        rotate_left
        · intro w hSw
          try dsimp only at hSw
          go_simp
          try with_reducible rfl
        try simp only [List.getElem_toArray, List.getElem_cons_succ, List.getElem_cons_zero, Act.put, List.setIfInBounds_toArray, List.set_cons_zero, List.set_cons_succ]
        refine wpAnyH_take (i := 2) (v := ?_) rfl (by kernel_rfl) (by kernel_rfl) (by kernel_rfl) (fun _ _ _ h => h) (Or.inl ⟨by rfl, ?_⟩) (by assumption) ?_
        rotate_left
        · intro w hSw
          try dsimp only at hSw
          go_simp
          try with_reducible rfl
        try simp only [List.getElem_toArray, List.getElem_cons_succ, List.getElem_cons_zero, Act.put, List.setIfInBounds_toArray, List.set_cons_zero, List.set_cons_succ]
        refine wpAnyH_take (i := 3) (v := ?_) rfl (by kernel_rfl) (by kernel_rfl) (by kernel_rfl) (fun _ _ _ h => h) (Or.inl ⟨by rfl, ?_⟩) (by assumption) ?_
        rotate_left
        · intro w hSw
          try dsimp only at hSw
          go_simp
          try with_reducible rfl
        try simp only [List.getElem_toArray, List.getElem_cons_succ, List.getElem_cons_zero, Act.put, List.setIfInBounds_toArray, List.set_cons_zero, List.set_cons_succ]
        refine wpAnyH_take (i := 4) (v := ?_) rfl (by kernel_rfl) (by kernel_rfl) (by kernel_rfl) (fun _ _ _ h => h) (Or.inl ⟨by rfl, ?_⟩) (by assumption) ?_
        rotate_left
        · intro w hSw
          try dsimp only at hSw
          go_simp
          try with_reducible rfl
        try simp only [List.getElem_toArray, List.getElem_cons_succ, List.getElem_cons_zero, Act.put, List.setIfInBounds_toArray, List.set_cons_zero, List.set_cons_succ]
        refine wpAnyH_take (i := 5) (v := ?_) rfl (by kernel_rfl) (by kernel_rfl) (by kernel_rfl) (fun _ _ _ h => h) (Or.inl ⟨by rfl, ?_⟩) (by assumption) ?_
        rotate_left
        · intro w hSw
          try dsimp only at hSw
          have g1 := (hSw.cell hblA (fun q => q) (ol + k)).trans hclA
          go_simp
          try with_reducible rfl
        try simp only [List.getElem_toArray, List.getElem_cons_succ, List.getElem_cons_zero, Act.put, List.setIfInBounds_toArray, List.set_cons_zero, List.set_cons_succ]
        refine wpAnyH_take (i := 6) (v := ?_) rfl (by kernel_rfl) (by kernel_rfl) (by kernel_rfl) (fun _ _ _ h => h) (Or.inl ⟨by rfl, ?_⟩) (by assumption) ?_
        rotate_left
        · intro w hSw
          try dsimp only at hSw
          go_simp
          try with_reducible rfl
        try simp only [List.getElem_toArray, List.getElem_cons_succ, List.getElem_cons_zero, Act.put, List.setIfInBounds_toArray, List.set_cons_zero, List.set_cons_succ]
        refine wpAnyH_take (i := 7) (v := ?_) rfl (by kernel_rfl) (by kernel_rfl) (by kernel_rfl) (fun _ _ _ h => h) (Or.inl ⟨by rfl, ?_⟩) (by assumption) ?_
        rotate_left
        · intro w hSw
          try dsimp only at hSw
          go_simp
          try with_reducible rfl
        try simp only [List.getElem_toArray, List.getElem_cons_succ, List.getElem_cons_zero, Act.put, List.setIfInBounds_toArray, List.set_cons_zero, List.set_cons_succ]
        refine wpAnyH_take (i := 8) (v := ?_) rfl (by kernel_rfl) (by kernel_rfl) (by kernel_rfl) (fun _ _ _ h => h) (Or.inl ⟨by rfl, ?_⟩) (by assumption) ?_
        rotate_left
        · intro w hSw
          try dsimp only at hSw
          go_simp
          try with_reducible rfl
        try simp only [List.getElem_toArray, List.getElem_cons_succ, List.getElem_cons_zero, Act.put, List.setIfInBounds_toArray, List.set_cons_zero, List.set_cons_succ]
        refine wpAnyH_take (i := 9) (v := ?_) rfl (by kernel_rfl) (by kernel_rfl) (by kernel_rfl) (fun _ _ _ h => h) (Or.inl ⟨by rfl, ?_⟩) (by assumption) ?_
        rotate_left
        · intro w hSw
          try dsimp only at hSw
          have g2 := (hSw.cell hbmA (fun q => q) (om + k)).trans hcmA
          go_simp
          try with_reducible rfl
        try simp only [List.getElem_toArray, List.getElem_cons_succ, List.getElem_cons_zero, Act.put, List.setIfInBounds_toArray, List.set_cons_zero, List.set_cons_succ]
        refine wpAnyH_ready (rs := [10]) (by kernel_rfl) (by simp) ?_
        refine AllReadyH.cons rfl (fun Kc hKc => ?_) AllReadyH.nil
        go_simp
        refine (HAm.out _ (tab_same HT.out ((K5.out.same L2.out).same AA.out).drew)).mono ?_
        rintro e wB ⟨rfl, MB⟩
        have BB := Lib.hid ((Mod.refl (fun _ => False) wA).drew.same MB)
        clear MB
        go_wp2_with fail
        refine hKc.out _ _ (by (try dsimp only); exact BB.out) (fun hHeld => ?_)
        clear hKc Kc
        try simp only [List.getElem_toArray, List.getElem_cons_succ, List.getElem_cons_zero, Act.put, List.setIfInBounds_toArray, List.set_cons_zero, List.set_cons_succ]
        refine wpAnyH_take (i := 11) (v := ?_) rfl (by kernel_rfl) (by kernel_rfl) (by kernel_rfl) (fun _ _ _ h => h) (Or.inl ⟨by rfl, ?_⟩) (by assumption) ?_
        rotate_left
        · intro w hSw
          try dsimp only at hSw
          go_simp
          try with_reducible rfl
        try simp only [List.getElem_toArray, List.getElem_cons_succ, List.getElem_cons_zero, Act.put, List.setIfInBounds_toArray, List.set_cons_zero, List.set_cons_succ]
        refine wpAnyH_take (i := 12) (v := ?_) rfl (by kernel_rfl) (by kernel_rfl) (by kernel_rfl) (fun _ _ _ h => h) (Or.inl ⟨by rfl, ?_⟩) (by assumption) ?_
        rotate_left
        · intro w hSw
          try dsimp only at hSw
          go_simp
          try with_reducible rfl
        try simp only [List.getElem_toArray, List.getElem_cons_succ, List.getElem_cons_zero, Act.put, List.setIfInBounds_toArray, List.set_cons_zero, List.set_cons_succ]
        refine wpAnyH_done (by kernel_rfl) ?_ _
        have J2 := Lib.hid (((K5.out.same L2.out).same AA.out).same BB.out)
        have I2 := Lib.hid (AA.out.same BB.out)
        have hclB := (I2.out.cell hbl (fun q => q) (ol + k)).trans hcl
        have hblB : bl < wB.heap.size := Nat.lt_of_lt_of_le hbl I2.out.size
        clear hclA hcmA HAm AA BB
        go_wp2_with fail
        refine (HBy.out _ (tab_same HT.out J2.out)).mono ?_
        rintro e wC ⟨rfl, MC⟩
        have J3 := Lib.hid (J2.out.same MC)
        have I3 := Lib.hid (I2.out.same MC)
        clear MC HBy hclB
        go_wp2_with fail
        rw [EAp.out]
        refine (HRd.out _).mono ?_
        rintro e wD ⟨rfl, MD⟩
        have J4 := Lib.hid (J3.out.same MD)
        have I4 := Lib.hid (I3.out.same MD)
        have hclD := (I4.out.cell hbl (fun q => q) (ol + k)).trans hcl
        have hblD : bl < wD.heap.size := Nat.lt_of_lt_of_le hbl I4.out.size
        clear MD HRd J3 I3
        go_wp2_with fail
        refine (HAl.out _ (tab_same HT.out J4.out)).mono ?_
        rintro e wE ⟨rfl, ME⟩
        have I5 := Lib.hid (I4.out.same ME)
        clear ME HAl J4 I4 hclD
        go_wp2_with fail
        go_roundw
        case rel => exact ⟨k + 1, by omega, by go_num, by rw [ESm.out], L2.out.same I5.out⟩
        case measure => simp [intOf]; omega
      | false =>
        have ESm := Lib.hid (smK_false L M k hsk)
        clear hsk HAm0 HOO
        go_wp2_with fail
        refine wp_region_held_drew (S := fun w' => Same wA w') (by kernel_rfl) (by (try dsimp only); exact (Mod.refl _ _).drew) (fun hHeld => ?_)
        refine wpAnyH_take (i := 0) (v := ?_) rfl (by kernel_rfl) (by kernel_rfl) (by kernel_rfl) (fun _ _ _ h => h) (Or.inl ⟨by rfl, ?_⟩) (by assumption) ?_
        rotate_left
        · intro w hSw
          try dsimp only at hSw
          go_simp
          try with_reducible rfl
        try simp only [List.getElem_toArray, List.getElem_cons_succ, List.getElem_cons_zero, Act.put, List.setIfInBounds_toArray, List.set_cons_zero, List.set_cons_succ]
        refine wpAnyH_take (i := 1) (v := ?_) rfl (by kernel_rfl) (by kernel_rfl) (by kernel_rfl) (fun _ _ _ h => h) (Or.inl ⟨by rfl, ?_⟩) (by assumption) ?_
        rotate_left
        · intro w hSw
          try dsimp only at hSw
          go_simp
          try with_reducible rfl
        try simp only [List.getElem_toArray, List.getElem_cons_succ, List.getElem_cons_zero, Act.put, List.setIfInBounds_toArray, List.set_cons_zero, List.set_cons_succ]
        refine wpAnyH_take (i := 2) (v := undef) rfl (by kernel_rfl) (by kernel_rfl) (by kernel_rfl) (fun _ _ _ h => h) (Or.inr ⟨by rfl, rfl⟩) (by assumption) ?_
        try simp only [List.getElem_toArray, List.getElem_cons_succ, List.getElem_cons_zero, Act.put, List.setIfInBounds_toArray, List.set_cons_zero, List.set_cons_succ]
        refine wpAnyH_take (i := 3) (v := undef) rfl (by kernel_rfl) (by kernel_rfl) (by kernel_rfl) (fun _ _ _ h => h) (Or.inr ⟨by rfl, rfl⟩) (by assumption) ?_
        try simp only [List.getElem_toArray, List.getElem_cons_succ, List.getElem_cons_zero, Act.put, List.setIfInBounds_toArray, List.set_cons_zero, List.set_cons_succ]
        refine wpAnyH_take (i := 4) (v := undef) rfl (by kernel_rfl) (by kernel_rfl) (by kernel_rfl) (fun _ _ _ h => h) (Or.inr ⟨by rfl, rfl⟩) (by assumption) ?_
        try simp only [List.getElem_toArray, List.getElem_cons_succ, List.getElem_cons_zero, Act.put, List.setIfInBounds_toArray, List.set_cons_zero, List.set_cons_succ]
        refine wpAnyH_take (i := 5) (v := undef) rfl (by kernel_rfl) (by kernel_rfl) (by kernel_rfl) (fun _ _ _ h => h) (Or.inr ⟨by rfl, rfl⟩) (by assumption) ?_
        try simp only [List.getElem_toArray, List.getElem_cons_succ, List.getElem_cons_zero, Act.put, List.setIfInBounds_toArray, List.set_cons_zero, List.set_cons_succ]
        refine wpAnyH_take (i := 6) (v := undef) rfl (by kernel_rfl) (by kernel_rfl) (by kernel_rfl) (fun _ _ _ h => h) (Or.inr ⟨by rfl, rfl⟩) (by assumption) ?_
        try simp only [List.getElem_toArray, List.getElem_cons_succ, List.getElem_cons_zero, Act.put, List.setIfInBounds_toArray, List.set_cons_zero, List.set_cons_succ]
        refine wpAnyH_take (i := 7) (v := undef) rfl (by kernel_rfl) (by kernel_rfl) (by kernel_rfl) (fun _ _ _ h => h) (Or.inr ⟨by rfl, rfl⟩) (by assumption) ?_
        try simp only [List.getElem_toArray, List.getElem_cons_succ, List.getElem_cons_zero, Act.put, List.setIfInBounds_toArray, List.set_cons_zero, List.set_cons_succ]
        refine wpAnyH_take (i := 8) (v := undef) rfl (by kernel_rfl) (by kernel_rfl) (by kernel_rfl) (fun _ _ _ h => h) (Or.inr ⟨by rfl, rfl⟩) (by assumption) ?_
        try simp only [List.getElem_toArray, List.getElem_cons_succ, List.getElem_cons_zero, Act.put, List.setIfInBounds_toArray, List.set_cons_zero, List.set_cons_succ]
        refine wpAnyH_take (i := 9) (v := undef) rfl (by kernel_rfl) (by kernel_rfl) (by kernel_rfl) (fun _ _ _ h => h) (Or.inr ⟨by rfl, rfl⟩) (by assumption) ?_
        try simp only [List.getElem_toArray, List.getElem_cons_succ, List.getElem_cons_zero, Act.put, List.setIfInBounds_toArray, List.set_cons_zero, List.set_cons_succ]
        refine wpAnyH_take (i := 10) (v := undef) rfl (by kernel_rfl) (by kernel_rfl) (by kernel_rfl) (fun _ _ _ h => h) (Or.inr ⟨by rfl, rfl⟩) (by assumption) ?_
        try simp only [List.getElem_toArray, List.getElem_cons_succ, List.getElem_cons_zero, Act.put, List.setIfInBounds_toArray, List.set_cons_zero, List.set_cons_succ]
        refine wpAnyH_take (i := 11) (v := ?_) rfl (by kernel_rfl) (by kernel_rfl) (by kernel_rfl) (fun _ _ _ h => h) (Or.inl ⟨by rfl, ?_⟩) (by assumption) ?_
        rotate_left
        · intro w hSw
          try dsimp only at hSw
          go_simp
          try with_reducible rfl
        try simp only [List.getElem_toArray, List.getElem_cons_succ, List.getElem_cons_zero, Act.put, List.setIfInBounds_toArray, List.set_cons_zero, List.set_cons_succ]
        refine wpAnyH_take (i := 12) (v := ?_) rfl (by kernel_rfl) (by kernel_rfl) (by kernel_rfl) (fun _ _ _ h => h) (Or.inl ⟨by rfl, ?_⟩) (by assumption) ?_
        rotate_left
        · intro w hSw
          try dsimp only at hSw
          go_simp
          try with_reducible rfl
        try simp only [List.getElem_toArray, List.getElem_cons_succ, List.getElem_cons_zero, Act.put, List.setIfInBounds_toArray, List.set_cons_zero, List.set_cons_succ]
        refine wpAnyH_done (by kernel_rfl) ?_ _
        have J2 := Lib.hid (((K5.out.same L2.out).same AA.out).drew)
        have I2 := Lib.hid (AA.out.drew)
        have hclB := (I2.out.cell hbl (fun q => q) (ol + k)).trans hcl
        have hblB : bl < wA.drew.heap.size := Nat.lt_of_lt_of_le hbl I2.out.size
        clear AA
        generalize wA.drew = wB at *
        clear hclA hblA
        go_wp2_with fail
        refine (HBy.out _ (tab_same HT.out J2.out)).mono ?_
        rintro e wC ⟨rfl, MC⟩
        have J3 := Lib.hid (J2.out.same MC)
        have I3 := Lib.hid (I2.out.same MC)
        clear MC HBy hclB
        go_wp2_with fail
        rw [EAp.out]
        refine (HRd.out _).mono ?_
        rintro e wD ⟨rfl, MD⟩
        have J4 := Lib.hid (J3.out.same MD)
        have I4 := Lib.hid (I3.out.same MD)
        have hclD := (I4.out.cell hbl (fun q => q) (ol + k)).trans hcl
        have hblD : bl < wD.heap.size := Nat.lt_of_lt_of_le hbl I4.out.size
        clear MD HRd J3 I3
        go_wp2_with fail
        refine (HAl.out _ (tab_same HT.out J4.out)).mono ?_
        rintro e wE ⟨rfl, ME⟩
        have I5 := Lib.hid (I4.out.same ME)
        clear ME HAl J4 I4 hclD
        go_wp2_with fail
        go_roundw
        case rel => exact ⟨k + 1, by omega, by go_num, by rw [ESm.out], L2.out.same I5.out⟩
        case measure => simp [intOf]; omega
    · obtain rfl : k = nl := by omega
      rw [smK_all L M k (by rw [HNl.out]; exact Nat.le_refl _)]
      have hne : (decide (L = M) != decide (L = M)) = false := by simp
      generalize decide (L = M) = dLM at *
      have kc := Lib.run_convert_string_bytes (P := Tryz.prog) wr 9 64 5 ⟨S.toArray⟩ Tryz.underlying9 Tryz.underlying64 Tryz.underlying5
      rw [hbS] at kc
      have B0 := Lib.hid (BR.new wr S)
      have J0 := Lib.hid ((K5.out.same L2.out).same (bytes_same wr ⟨S.toArray⟩))
      have hgw : w.heap.size ≤ wr.heap.size := (K5.out.same L2.out).size
      have hu := u64wrap_nonneg z
      have ht0 : 0 ≤ (IntKind.u64.wrap z).tmod ((sl : Int) - 3) := Int.tmod_nonneg _ hu.1
      have ht1 : (IntKind.u64.wrap z).tmod ((sl : Int) - 3) < (sl : Int) - 3 := Int.tmod_lt_of_pos _ (by omega)
      obtain ⟨kk, hkk⟩ := Int.eq_ofNat_of_zero_le ht0
      rw [hkk] at ht0 ht1
      have HKK := Lib.hid hkk
      generalize Lib.bytesWorld wr 5 ⟨S.toArray⟩ = W at *
      generalize wr.heap.size = g at *
      generalize grownCap wr sl 0 5 = cap at *
      clear K5 L2 R1 R2b R3 HFL HFM ht0
      go_wp2_with fail
      have hk4 : kk + 4 ≤ sl := by omega
      clear kc hkk hu ht1
      go_loopw [26] (fun i wr => ∃ j : Nat, j ≤ 4 ∧ i = .int .i64 (j : Int) ∧ BR wr g (flipJ S kk m j) ∧ Mod (fun x => x = g) W wr) (fun i _ => 4 - (intOf i).toNat)
      case atStart => exact ⟨0, by omega, rfl, B0.out, Mod.refl _ _⟩
      case round =>
        obtain ⟨j, hj, rfl, hB, hM⟩ := hrel
        have B1 := Lib.hid hB
        have P1 := Lib.hid hM
        have HFL := Lib.hid ((flipJ_len S kk m j).trans HSl.out)
        have hgr : g < wr.heap.size := hB.lt
        clear hB hM
        by_cases hj4 : j < 4
        · have hj' : j = 0 ∨ j = 1 ∨ j = 2 ∨ j = 3 := by omega
          clear hj hj4
          rcases hj' with rfl | rfl | rfl | rfl

          · have q0 : IntKind.i64.wrap (kk : Int) = (kk : Int) := IntWalk.i64_in _ (by omega)
            have q5 : IntKind.i64.wrap 0 = 0 := by rfl
            have q2 : (0 : Int) ≤ (kk : Int) := by omega
            have q3 : (kk : Int) < (sl : Int) := by omega
            obtain ⟨c0, hc0⟩ : ∃ c0, (flipJ S kk m 0).getD (kk) 0 = c0 := ⟨_, rfl⟩
            have hcc := B1.out.cell (kk) (by rw [HFL.out]; omega)
            have hfc := B1.out.free (kk) (by rw [HFL.out]; omega)
            rw [hc0] at hcc
            have hX : bits .xor .u8 (c0.toNat : Int) (IntKind.u8.wrap ((m : Int))) = (((c0 ^^^ mb m 0).toNat : Nat) : Int) := by
              rw [← xor_mb, u8wrap]
              congr 1
              rw [Nat.pow_zero]; omega
            have EF := Lib.hid (show flipJ S kk m (0 + 1) = (flipJ S kk m 0).set (kk + 0) (c0 ^^^ mb m 0) by rw [flip_next]; rw [Nat.add_zero, hc0])
            have HX := Lib.hid hX
            clear hc0 hX
            go_wp2_with fail
            refine wp_region_held_drew (S := fun _ => True) (by kernel_rfl) (by (try dsimp only); all_goals trivial) (fun hHeld => ?_)
            refine wpAnyH_take (i := 0) (v := ?_) rfl (by kernel_rfl) (by kernel_rfl) (by kernel_rfl) (fun _ _ _ h => h) (Or.inl ⟨by rfl, ?_⟩) (by assumption) ?_
            rotate_left
            · intro w hSw
              try dsimp only at hSw
              go_simp
              try with_reducible rfl
            try simp only [List.getElem_toArray, List.getElem_cons_succ, List.getElem_cons_zero, Act.put, List.setIfInBounds_toArray, List.set_cons_zero, List.set_cons_succ]
            refine wpAnyH_take (i := 1) (v := ?_) rfl (by kernel_rfl) (by kernel_rfl) (by kernel_rfl) (fun _ _ _ h => h) (Or.inl ⟨by rfl, ?_⟩) (by assumption) ?_
            rotate_left
            · intro w hSw
              try dsimp only at hSw
              go_simp
              try with_reducible rfl
            try simp only [List.getElem_toArray, List.getElem_cons_succ, List.getElem_cons_zero, Act.put, List.setIfInBounds_toArray, List.set_cons_zero, List.set_cons_succ]
            refine wpAnyH_take (i := 2) (v := ?_) rfl (by kernel_rfl) (by kernel_rfl) (by kernel_rfl) (fun _ _ _ h => h) (Or.inl ⟨by rfl, ?_⟩) (by assumption) ?_
            rotate_left
            · intro w hSw
              try dsimp only at hSw
              go_simp
              try with_reducible rfl
            try simp only [List.getElem_toArray, List.getElem_cons_succ, List.getElem_cons_zero, Act.put, List.setIfInBounds_toArray, List.set_cons_zero, List.set_cons_succ]
            refine wpAnyH_take (i := 3) (v := ?_) rfl (by kernel_rfl) (by kernel_rfl) (by kernel_rfl) (fun _ _ _ h => h) (Or.inl ⟨by rfl, ?_⟩) (by assumption) ?_
            rotate_left
            · intro w hSw
              try dsimp only at hSw
              go_simp
              try with_reducible rfl
            try simp only [List.getElem_toArray, List.getElem_cons_succ, List.getElem_cons_zero, Act.put, List.setIfInBounds_toArray, List.set_cons_zero, List.set_cons_succ]
            refine wpAnyH_take (i := 4) (v := ?_) rfl (by kernel_rfl) (by kernel_rfl) (by kernel_rfl) (fun _ _ _ h => h) (Or.inl ⟨by rfl, ?_⟩) (by assumption) ?_
            rotate_left
            · intro w hSw
              try dsimp only at hSw
              go_simp
              try with_reducible rfl
            try simp only [List.getElem_toArray, List.getElem_cons_succ, List.getElem_cons_zero, Act.put, List.setIfInBounds_toArray, List.set_cons_zero, List.set_cons_succ]
            refine wpAnyH_take (i := 5) (v := ?_) rfl (by kernel_rfl) (by kernel_rfl) (by kernel_rfl) (fun _ _ _ h => h) (Or.inl ⟨by rfl, ?_⟩) (by assumption) ?_
            rotate_left
            · intro w hSw
              try dsimp only at hSw
              go_simp
              try with_reducible rfl
            try simp only [List.getElem_toArray, List.getElem_cons_succ, List.getElem_cons_zero, Act.put, List.setIfInBounds_toArray, List.set_cons_zero, List.set_cons_succ]
            refine wpAnyH_take (i := 6) (v := ?_) rfl (by kernel_rfl) (by kernel_rfl) (by kernel_rfl) (fun _ _ _ h => h) (Or.inl ⟨by rfl, ?_⟩) (by assumption) ?_
            rotate_left
            · intro w hSw
              try dsimp only at hSw
              go_simp
              try with_reducible rfl
            try simp only [List.getElem_toArray, List.getElem_cons_succ, List.getElem_cons_zero, Act.put, List.setIfInBounds_toArray, List.set_cons_zero, List.set_cons_succ]
            refine wpAnyH_take (i := 7) (v := ?_) rfl (by kernel_rfl) (by kernel_rfl) (by kernel_rfl) (fun _ _ _ h => h) (Or.inl ⟨by rfl, ?_⟩) (by assumption) ?_
            rotate_left
            · intro w hSw
              try dsimp only at hSw
              go_simp
              try with_reducible rfl
            try simp only [List.getElem_toArray, List.getElem_cons_succ, List.getElem_cons_zero, Act.put, List.setIfInBounds_toArray, List.set_cons_zero, List.set_cons_succ]
            refine wpAnyH_take (i := 8) (v := ?_) rfl (by kernel_rfl) (by kernel_rfl) (by kernel_rfl) (fun _ _ _ h => h) (Or.inl ⟨by rfl, ?_⟩) (by assumption) ?_
            rotate_left
            · intro w hSw
              try dsimp only at hSw
              go_simp
              try with_reducible rfl
            try simp only [List.getElem_toArray, List.getElem_cons_succ, List.getElem_cons_zero, Act.put, List.setIfInBounds_toArray, List.set_cons_zero, List.set_cons_succ]
            refine wpAnyH_take (i := 10) (v := ?_) rfl (by kernel_rfl) (by kernel_rfl) (by kernel_rfl) (fun _ _ _ h => h) (Or.inl ⟨by rfl, ?_⟩) (by assumption) ?_
            rotate_left
            · intro w hSw
              try dsimp only at hSw
              go_simp
              try with_reducible rfl
            try simp only [List.getElem_toArray, List.getElem_cons_succ, List.getElem_cons_zero, Act.put, List.setIfInBounds_toArray, List.set_cons_zero, List.set_cons_succ]
            refine wpAnyH_take (i := 11) (v := ?_) rfl (by kernel_rfl) (by kernel_rfl) (by kernel_rfl) (fun _ _ _ h => h) (Or.inl ⟨by rfl, ?_⟩) (by assumption) ?_
            rotate_left
            · intro w hSw
              try dsimp only at hSw
              go_simp
              try with_reducible rfl
            try simp only [List.getElem_toArray, List.getElem_cons_succ, List.getElem_cons_zero, Act.put, List.setIfInBounds_toArray, List.set_cons_zero, List.set_cons_succ]
            refine wpAnyH_take (i := 12) (v := ?_) rfl (by kernel_rfl) (by kernel_rfl) (by kernel_rfl) (fun _ _ _ h => h) (Or.inl ⟨by rfl, ?_⟩) (by assumption) ?_
            rotate_left
            · intro w hSw
              try dsimp only at hSw
              go_simp
              try with_reducible rfl
            try simp only [List.getElem_toArray, List.getElem_cons_succ, List.getElem_cons_zero, Act.put, List.setIfInBounds_toArray, List.set_cons_zero, List.set_cons_succ]
            refine wpAnyH_take (i := 13) (v := ?_) rfl (by kernel_rfl) (by kernel_rfl) (by kernel_rfl) (fun _ _ _ h => h) (Or.inl ⟨by rfl, ?_⟩) (by assumption) ?_
            rotate_left
            · intro w hSw
              try dsimp only at hSw
              go_simp
              try with_reducible rfl
            try simp only [List.getElem_toArray, List.getElem_cons_succ, List.getElem_cons_zero, Act.put, List.setIfInBounds_toArray, List.set_cons_zero, List.set_cons_succ]
            refine wpAnyH_take (i := 14) (v := ?_) rfl (by kernel_rfl) (by kernel_rfl) (by kernel_rfl) (fun _ _ _ h => h) (Or.inl ⟨by rfl, ?_⟩) (by assumption) ?_
            rotate_left
            · intro w hSw
              try dsimp only at hSw
              go_simp
              try with_reducible rfl
            try simp only [List.getElem_toArray, List.getElem_cons_succ, List.getElem_cons_zero, Act.put, List.setIfInBounds_toArray, List.set_cons_zero, List.set_cons_succ]
            refine wpAnyH_ready (rs := [9]) (by kernel_rfl) (by simp) ?_
            refine AllReadyH.cons rfl (fun Kc hKc => ?_) AllReadyH.nil
            go_simp
            refine hKc.out _ _ (by (try dsimp only); all_goals trivial) (fun hHeld => ?_)
            clear hKc Kc
            try simp only [List.getElem_toArray, List.getElem_cons_succ, List.getElem_cons_zero, Act.put, List.setIfInBounds_toArray, List.set_cons_zero, List.set_cons_succ]
            refine wpAnyH_take (i := 15) (v := ?_) rfl (by kernel_rfl) (by kernel_rfl) (by kernel_rfl) (fun _ _ _ h => h) (Or.inl ⟨by rfl, ?_⟩) (by assumption) ?_
            rotate_left
            · intro w hSw
              try dsimp only at hSw
              go_simp
              try with_reducible rfl
            try simp only [List.getElem_toArray, List.getElem_cons_succ, List.getElem_cons_zero, Act.put, List.setIfInBounds_toArray, List.set_cons_zero, List.set_cons_succ]
            refine wpAnyH_take (i := 16) (v := ?_) rfl (by kernel_rfl) (by kernel_rfl) (by kernel_rfl) (fun _ _ _ h => h) (Or.inl ⟨by rfl, ?_⟩) (by assumption) ?_
            rotate_left
            · intro w hSw
              try dsimp only at hSw
              go_simp
              try with_reducible rfl
            try simp only [List.getElem_toArray, List.getElem_cons_succ, List.getElem_cons_zero, Act.put, List.setIfInBounds_toArray, List.set_cons_zero, List.set_cons_succ]
            refine wpAnyH_ready (rs := [17]) (by kernel_rfl) (by simp) ?_
            refine AllReadyH.cons rfl (fun Kc hKc => ?_) AllReadyH.nil
            go_simp
            refine hKc.out _ _ (by (try dsimp only); all_goals trivial) (fun hHeld => ?_)
            clear hKc Kc
            try simp only [List.getElem_toArray, List.getElem_cons_succ, List.getElem_cons_zero, Act.put, List.setIfInBounds_toArray, List.set_cons_zero, List.set_cons_succ]
            refine wpAnyH_done (by kernel_rfl) ?_ _
            have NB := Lib.hid (show BR (wr.setCell ⟨g, kk, none⟩ (.int .u8 (bits .xor .u8 (c0.toNat : Int) (IntKind.u8.wrap ((m : Int)))))).drew g (flipJ S kk m (0 + 1)) by
              rw [HX.out, EF.out]
              exact (B1.out.set (kk + 0) (by rw [HFL.out]; omega) (c0 ^^^ mb m 0)).drew)
            have NM := Lib.hid ((P1.out.setCell (p := ⟨g, kk, none⟩) (fun _ => rfl) (.int .u8 (bits .xor .u8 (c0.toNat : Int) (IntKind.u8.wrap ((m : Int)))))).drew)
            clear hcc hfc B1 P1 EF HX
            generalize (wr.setCell _ _).drew = wz at *
            go_wp2_with fail
            go_roundw
            case rel => exact ⟨0 + 1, by omega, by first | rfl | go_num, NB.out, NM.out⟩
            case measure => simp [intOf]
          · have q0 : IntKind.i64.wrap (kk : Int) = (kk : Int) := IntWalk.i64_in _ (by omega)
            have q5 : IntKind.i64.wrap 8 = 8 := by rfl
            have q1 : IntKind.i64.wrap ((kk : Int) + 1) = (kk : Int) + 1 := IntWalk.i64_in _ (by omega)
            have q4 : ((kk : Int) + 1).toNat = kk + 1 := by omega
            have q2 : (0 : Int) ≤ (kk : Int) + 1 := by omega
            have q3 : (kk : Int) + 1 < (sl : Int) := by omega
            obtain ⟨c0, hc0⟩ : ∃ c0, (flipJ S kk m 1).getD (kk + 1) 0 = c0 := ⟨_, rfl⟩
            have hcc := B1.out.cell (kk + 1) (by rw [HFL.out]; omega)
            have hfc := B1.out.free (kk + 1) (by rw [HFL.out]; omega)
            rw [hc0] at hcc
            have hX : bits .xor .u8 (c0.toNat : Int) (IntKind.u8.wrap ((m : Int) / 256)) = (((c0 ^^^ mb m 1).toNat : Nat) : Int) := by
              rw [← xor_mb, u8wrap]
              congr 1
              all_goals (rw [show 256 ^ 1 = 256 from rfl]; try omega)
            have EF := Lib.hid (show flipJ S kk m (1 + 1) = (flipJ S kk m 1).set (kk + 1) (c0 ^^^ mb m 1) by rw [flip_next]; rw [hc0])
            have HX := Lib.hid hX
            clear hc0 hX
            go_wp2_with fail
            refine wp_region_held_drew (S := fun _ => True) (by kernel_rfl) (by (try dsimp only); all_goals trivial) (fun hHeld => ?_)
            refine wpAnyH_take (i := 0) (v := ?_) rfl (by kernel_rfl) (by kernel_rfl) (by kernel_rfl) (fun _ _ _ h => h) (Or.inl ⟨by rfl, ?_⟩) (by assumption) ?_
            rotate_left
            · intro w hSw
              try dsimp only at hSw
              go_simp
              try with_reducible rfl
            try simp only [List.getElem_toArray, List.getElem_cons_succ, List.getElem_cons_zero, Act.put, List.setIfInBounds_toArray, List.set_cons_zero, List.set_cons_succ]
            refine wpAnyH_take (i := 1) (v := ?_) rfl (by kernel_rfl) (by kernel_rfl) (by kernel_rfl) (fun _ _ _ h => h) (Or.inl ⟨by rfl, ?_⟩) (by assumption) ?_
            rotate_left
            · intro w hSw
              try dsimp only at hSw
              go_simp
              try with_reducible rfl
            try simp only [List.getElem_toArray, List.getElem_cons_succ, List.getElem_cons_zero, Act.put, List.setIfInBounds_toArray, List.set_cons_zero, List.set_cons_succ]
            refine wpAnyH_take (i := 2) (v := ?_) rfl (by kernel_rfl) (by kernel_rfl) (by kernel_rfl) (fun _ _ _ h => h) (Or.inl ⟨by rfl, ?_⟩) (by assumption) ?_
            rotate_left
            · intro w hSw
              try dsimp only at hSw
              go_simp
              try with_reducible rfl
            try simp only [List.getElem_toArray, List.getElem_cons_succ, List.getElem_cons_zero, Act.put, List.setIfInBounds_toArray, List.set_cons_zero, List.set_cons_succ]
            refine wpAnyH_take (i := 3) (v := ?_) rfl (by kernel_rfl) (by kernel_rfl) (by kernel_rfl) (fun _ _ _ h => h) (Or.inl ⟨by rfl, ?_⟩) (by assumption) ?_
            rotate_left
            · intro w hSw
              try dsimp only at hSw
              go_simp
              try with_reducible rfl
            try simp only [List.getElem_toArray, List.getElem_cons_succ, List.getElem_cons_zero, Act.put, List.setIfInBounds_toArray, List.set_cons_zero, List.set_cons_succ]
            refine wpAnyH_take (i := 4) (v := ?_) rfl (by kernel_rfl) (by kernel_rfl) (by kernel_rfl) (fun _ _ _ h => h) (Or.inl ⟨by rfl, ?_⟩) (by assumption) ?_
            rotate_left
            · intro w hSw
              try dsimp only at hSw
              go_simp
              try with_reducible rfl
            try simp only [List.getElem_toArray, List.getElem_cons_succ, List.getElem_cons_zero, Act.put, List.setIfInBounds_toArray, List.set_cons_zero, List.set_cons_succ]
            refine wpAnyH_take (i := 5) (v := ?_) rfl (by kernel_rfl) (by kernel_rfl) (by kernel_rfl) (fun _ _ _ h => h) (Or.inl ⟨by rfl, ?_⟩) (by assumption) ?_
            rotate_left
            · intro w hSw
              try dsimp only at hSw
              go_simp
              try with_reducible rfl
            try simp only [List.getElem_toArray, List.getElem_cons_succ, List.getElem_cons_zero, Act.put, List.setIfInBounds_toArray, List.set_cons_zero, List.set_cons_succ]
            refine wpAnyH_take (i := 6) (v := ?_) rfl (by kernel_rfl) (by kernel_rfl) (by kernel_rfl) (fun _ _ _ h => h) (Or.inl ⟨by rfl, ?_⟩) (by assumption) ?_
            rotate_left
            · intro w hSw
              try dsimp only at hSw
              go_simp
              try with_reducible rfl
            try simp only [List.getElem_toArray, List.getElem_cons_succ, List.getElem_cons_zero, Act.put, List.setIfInBounds_toArray, List.set_cons_zero, List.set_cons_succ]
            refine wpAnyH_take (i := 7) (v := ?_) rfl (by kernel_rfl) (by kernel_rfl) (by kernel_rfl) (fun _ _ _ h => h) (Or.inl ⟨by rfl, ?_⟩) (by assumption) ?_
            rotate_left
            · intro w hSw
              try dsimp only at hSw
              go_simp
              try with_reducible rfl
            try simp only [List.getElem_toArray, List.getElem_cons_succ, List.getElem_cons_zero, Act.put, List.setIfInBounds_toArray, List.set_cons_zero, List.set_cons_succ]
            refine wpAnyH_take (i := 8) (v := ?_) rfl (by kernel_rfl) (by kernel_rfl) (by kernel_rfl) (fun _ _ _ h => h) (Or.inl ⟨by rfl, ?_⟩) (by assumption) ?_
            rotate_left
            · intro w hSw
              try dsimp only at hSw
              go_simp
              try with_reducible rfl
            try simp only [List.getElem_toArray, List.getElem_cons_succ, List.getElem_cons_zero, Act.put, List.setIfInBounds_toArray, List.set_cons_zero, List.set_cons_succ]
            refine wpAnyH_take (i := 10) (v := ?_) rfl (by kernel_rfl) (by kernel_rfl) (by kernel_rfl) (fun _ _ _ h => h) (Or.inl ⟨by rfl, ?_⟩) (by assumption) ?_
            rotate_left
            · intro w hSw
              try dsimp only at hSw
              go_simp
              try with_reducible rfl
            try simp only [List.getElem_toArray, List.getElem_cons_succ, List.getElem_cons_zero, Act.put, List.setIfInBounds_toArray, List.set_cons_zero, List.set_cons_succ]
            refine wpAnyH_take (i := 11) (v := ?_) rfl (by kernel_rfl) (by kernel_rfl) (by kernel_rfl) (fun _ _ _ h => h) (Or.inl ⟨by rfl, ?_⟩) (by assumption) ?_
            rotate_left
            · intro w hSw
              try dsimp only at hSw
              go_simp
              try with_reducible rfl
            try simp only [List.getElem_toArray, List.getElem_cons_succ, List.getElem_cons_zero, Act.put, List.setIfInBounds_toArray, List.set_cons_zero, List.set_cons_succ]
            refine wpAnyH_take (i := 12) (v := ?_) rfl (by kernel_rfl) (by kernel_rfl) (by kernel_rfl) (fun _ _ _ h => h) (Or.inl ⟨by rfl, ?_⟩) (by assumption) ?_
            rotate_left
            · intro w hSw
              try dsimp only at hSw
              go_simp
              try with_reducible rfl
            try simp only [List.getElem_toArray, List.getElem_cons_succ, List.getElem_cons_zero, Act.put, List.setIfInBounds_toArray, List.set_cons_zero, List.set_cons_succ]
            refine wpAnyH_take (i := 13) (v := ?_) rfl (by kernel_rfl) (by kernel_rfl) (by kernel_rfl) (fun _ _ _ h => h) (Or.inl ⟨by rfl, ?_⟩) (by assumption) ?_
            rotate_left
            · intro w hSw
              try dsimp only at hSw
              go_simp
              try with_reducible rfl
            try simp only [List.getElem_toArray, List.getElem_cons_succ, List.getElem_cons_zero, Act.put, List.setIfInBounds_toArray, List.set_cons_zero, List.set_cons_succ]
            refine wpAnyH_take (i := 14) (v := ?_) rfl (by kernel_rfl) (by kernel_rfl) (by kernel_rfl) (fun _ _ _ h => h) (Or.inl ⟨by rfl, ?_⟩) (by assumption) ?_
            rotate_left
            · intro w hSw
              try dsimp only at hSw
              go_simp
              try with_reducible rfl
            try simp only [List.getElem_toArray, List.getElem_cons_succ, List.getElem_cons_zero, Act.put, List.setIfInBounds_toArray, List.set_cons_zero, List.set_cons_succ]
            refine wpAnyH_ready (rs := [9]) (by kernel_rfl) (by simp) ?_
            refine AllReadyH.cons rfl (fun Kc hKc => ?_) AllReadyH.nil
            go_simp
            refine hKc.out _ _ (by (try dsimp only); all_goals trivial) (fun hHeld => ?_)
            clear hKc Kc
            try simp only [List.getElem_toArray, List.getElem_cons_succ, List.getElem_cons_zero, Act.put, List.setIfInBounds_toArray, List.set_cons_zero, List.set_cons_succ]
            refine wpAnyH_take (i := 15) (v := ?_) rfl (by kernel_rfl) (by kernel_rfl) (by kernel_rfl) (fun _ _ _ h => h) (Or.inl ⟨by rfl, ?_⟩) (by assumption) ?_
            rotate_left
            · intro w hSw
              try dsimp only at hSw
              go_simp
              try with_reducible rfl
            try simp only [List.getElem_toArray, List.getElem_cons_succ, List.getElem_cons_zero, Act.put, List.setIfInBounds_toArray, List.set_cons_zero, List.set_cons_succ]
            refine wpAnyH_take (i := 16) (v := ?_) rfl (by kernel_rfl) (by kernel_rfl) (by kernel_rfl) (fun _ _ _ h => h) (Or.inl ⟨by rfl, ?_⟩) (by assumption) ?_
            rotate_left
            · intro w hSw
              try dsimp only at hSw
              go_simp
              try with_reducible rfl
            try simp only [List.getElem_toArray, List.getElem_cons_succ, List.getElem_cons_zero, Act.put, List.setIfInBounds_toArray, List.set_cons_zero, List.set_cons_succ]
            refine wpAnyH_ready (rs := [17]) (by kernel_rfl) (by simp) ?_
            refine AllReadyH.cons rfl (fun Kc hKc => ?_) AllReadyH.nil
            go_simp
            refine hKc.out _ _ (by (try dsimp only); all_goals trivial) (fun hHeld => ?_)
            clear hKc Kc
            try simp only [List.getElem_toArray, List.getElem_cons_succ, List.getElem_cons_zero, Act.put, List.setIfInBounds_toArray, List.set_cons_zero, List.set_cons_succ]
            refine wpAnyH_done (by kernel_rfl) ?_ _
            have NB := Lib.hid (show BR (wr.setCell ⟨g, kk + 1, none⟩ (.int .u8 (bits .xor .u8 (c0.toNat : Int) (IntKind.u8.wrap ((m : Int) / 256))))).drew g (flipJ S kk m (1 + 1)) by
              rw [HX.out, EF.out]
              exact (B1.out.set (kk + 1) (by rw [HFL.out]; omega) (c0 ^^^ mb m 1)).drew)
            have NM := Lib.hid ((P1.out.setCell (p := ⟨g, kk + 1, none⟩) (fun _ => rfl) (.int .u8 (bits .xor .u8 (c0.toNat : Int) (IntKind.u8.wrap ((m : Int) / 256))))).drew)
            clear hcc hfc B1 P1 EF HX
            generalize (wr.setCell _ _).drew = wz at *
            go_wp2_with fail
            go_roundw
            case rel => exact ⟨1 + 1, by omega, by first | rfl | go_num, NB.out, NM.out⟩
            case measure => simp [intOf]
          · have q0 : IntKind.i64.wrap (kk : Int) = (kk : Int) := IntWalk.i64_in _ (by omega)
            have q5 : IntKind.i64.wrap 16 = 16 := by rfl
            have q1 : IntKind.i64.wrap ((kk : Int) + 2) = (kk : Int) + 2 := IntWalk.i64_in _ (by omega)
            have q4 : ((kk : Int) + 2).toNat = kk + 2 := by omega
            have q2 : (0 : Int) ≤ (kk : Int) + 2 := by omega
            have q3 : (kk : Int) + 2 < (sl : Int) := by omega
            obtain ⟨c0, hc0⟩ : ∃ c0, (flipJ S kk m 2).getD (kk + 2) 0 = c0 := ⟨_, rfl⟩
            have hcc := B1.out.cell (kk + 2) (by rw [HFL.out]; omega)
            have hfc := B1.out.free (kk + 2) (by rw [HFL.out]; omega)
            rw [hc0] at hcc
            have hX : bits .xor .u8 (c0.toNat : Int) (IntKind.u8.wrap ((m : Int) / 65536)) = (((c0 ^^^ mb m 2).toNat : Nat) : Int) := by
              rw [← xor_mb, u8wrap]
              congr 1
              all_goals (rw [show 256 ^ 2 = 65536 from rfl]; try omega)
            have EF := Lib.hid (show flipJ S kk m (2 + 1) = (flipJ S kk m 2).set (kk + 2) (c0 ^^^ mb m 2) by rw [flip_next]; rw [hc0])
            have HX := Lib.hid hX
            clear hc0 hX
            go_wp2_with fail
            refine wp_region_held_drew (S := fun _ => True) (by kernel_rfl) (by (try dsimp only); all_goals trivial) (fun hHeld => ?_)
            refine wpAnyH_take (i := 0) (v := ?_) rfl (by kernel_rfl) (by kernel_rfl) (by kernel_rfl) (fun _ _ _ h => h) (Or.inl ⟨by rfl, ?_⟩) (by assumption) ?_
            rotate_left
            · intro w hSw
              try dsimp only at hSw
              go_simp
              try with_reducible rfl
            try simp only [List.getElem_toArray, List.getElem_cons_succ, List.getElem_cons_zero, Act.put, List.setIfInBounds_toArray, List.set_cons_zero, List.set_cons_succ]
            refine wpAnyH_take (i := 1) (v := ?_) rfl (by kernel_rfl) (by kernel_rfl) (by kernel_rfl) (fun _ _ _ h => h) (Or.inl ⟨by rfl, ?_⟩) (by assumption) ?_
            rotate_left
            · intro w hSw
              try dsimp only at hSw
              go_simp
              try with_reducible rfl
            try simp only [List.getElem_toArray, List.getElem_cons_succ, List.getElem_cons_zero, Act.put, List.setIfInBounds_toArray, List.set_cons_zero, List.set_cons_succ]
            refine wpAnyH_take (i := 2) (v := ?_) rfl (by kernel_rfl) (by kernel_rfl) (by kernel_rfl) (fun _ _ _ h => h) (Or.inl ⟨by rfl, ?_⟩) (by assumption) ?_
            rotate_left
            · intro w hSw
              try dsimp only at hSw
              go_simp
              try with_reducible rfl
            try simp only [List.getElem_toArray, List.getElem_cons_succ, List.getElem_cons_zero, Act.put, List.setIfInBounds_toArray, List.set_cons_zero, List.set_cons_succ]
            refine wpAnyH_take (i := 3) (v := ?_) rfl (by kernel_rfl) (by kernel_rfl) (by kernel_rfl) (fun _ _ _ h => h) (Or.inl ⟨by rfl, ?_⟩) (by assumption) ?_
            rotate_left
            · intro w hSw
              try dsimp only at hSw
              go_simp
              try with_reducible rfl
            try simp only [List.getElem_toArray, List.getElem_cons_succ, List.getElem_cons_zero, Act.put, List.setIfInBounds_toArray, List.set_cons_zero, List.set_cons_succ]
            refine wpAnyH_take (i := 4) (v := ?_) rfl (by kernel_rfl) (by kernel_rfl) (by kernel_rfl) (fun _ _ _ h => h) (Or.inl ⟨by rfl, ?_⟩) (by assumption) ?_
            rotate_left
            · intro w hSw
              try dsimp only at hSw
              go_simp
              try with_reducible rfl
            try simp only [List.getElem_toArray, List.getElem_cons_succ, List.getElem_cons_zero, Act.put, List.setIfInBounds_toArray, List.set_cons_zero, List.set_cons_succ]
            refine wpAnyH_take (i := 5) (v := ?_) rfl (by kernel_rfl) (by kernel_rfl) (by kernel_rfl) (fun _ _ _ h => h) (Or.inl ⟨by rfl, ?_⟩) (by assumption) ?_
            rotate_left
            · intro w hSw
              try dsimp only at hSw
              go_simp
              try with_reducible rfl
            try simp only [List.getElem_toArray, List.getElem_cons_succ, List.getElem_cons_zero, Act.put, List.setIfInBounds_toArray, List.set_cons_zero, List.set_cons_succ]
            refine wpAnyH_take (i := 6) (v := ?_) rfl (by kernel_rfl) (by kernel_rfl) (by kernel_rfl) (fun _ _ _ h => h) (Or.inl ⟨by rfl, ?_⟩) (by assumption) ?_
            rotate_left
            · intro w hSw
              try dsimp only at hSw
              go_simp
              try with_reducible rfl
            try simp only [List.getElem_toArray, List.getElem_cons_succ, List.getElem_cons_zero, Act.put, List.setIfInBounds_toArray, List.set_cons_zero, List.set_cons_succ]
            refine wpAnyH_take (i := 7) (v := ?_) rfl (by kernel_rfl) (by kernel_rfl) (by kernel_rfl) (fun _ _ _ h => h) (Or.inl ⟨by rfl, ?_⟩) (by assumption) ?_
            rotate_left
            · intro w hSw
              try dsimp only at hSw
              go_simp
              try with_reducible rfl
            try simp only [List.getElem_toArray, List.getElem_cons_succ, List.getElem_cons_zero, Act.put, List.setIfInBounds_toArray, List.set_cons_zero, List.set_cons_succ]
            refine wpAnyH_take (i := 8) (v := ?_) rfl (by kernel_rfl) (by kernel_rfl) (by kernel_rfl) (fun _ _ _ h => h) (Or.inl ⟨by rfl, ?_⟩) (by assumption) ?_
            rotate_left
            · intro w hSw
              try dsimp only at hSw
              go_simp
              try with_reducible rfl
            try simp only [List.getElem_toArray, List.getElem_cons_succ, List.getElem_cons_zero, Act.put, List.setIfInBounds_toArray, List.set_cons_zero, List.set_cons_succ]
            refine wpAnyH_take (i := 10) (v := ?_) rfl (by kernel_rfl) (by kernel_rfl) (by kernel_rfl) (fun _ _ _ h => h) (Or.inl ⟨by rfl, ?_⟩) (by assumption) ?_
            rotate_left
            · intro w hSw
              try dsimp only at hSw
              go_simp
              try with_reducible rfl
            try simp only [List.getElem_toArray, List.getElem_cons_succ, List.getElem_cons_zero, Act.put, List.setIfInBounds_toArray, List.set_cons_zero, List.set_cons_succ]
            refine wpAnyH_take (i := 11) (v := ?_) rfl (by kernel_rfl) (by kernel_rfl) (by kernel_rfl) (fun _ _ _ h => h) (Or.inl ⟨by rfl, ?_⟩) (by assumption) ?_
            rotate_left
            · intro w hSw
              try dsimp only at hSw
              go_simp
              try with_reducible rfl
            try simp only [List.getElem_toArray, List.getElem_cons_succ, List.getElem_cons_zero, Act.put, List.setIfInBounds_toArray, List.set_cons_zero, List.set_cons_succ]
            refine wpAnyH_take (i := 12) (v := ?_) rfl (by kernel_rfl) (by kernel_rfl) (by kernel_rfl) (fun _ _ _ h => h) (Or.inl ⟨by rfl, ?_⟩) (by assumption) ?_
            rotate_left
            · intro w hSw
              try dsimp only at hSw
              go_simp
              try with_reducible rfl
            try simp only [List.getElem_toArray, List.getElem_cons_succ, List.getElem_cons_zero, Act.put, List.setIfInBounds_toArray, List.set_cons_zero, List.set_cons_succ]
            refine wpAnyH_take (i := 13) (v := ?_) rfl (by kernel_rfl) (by kernel_rfl) (by kernel_rfl) (fun _ _ _ h => h) (Or.inl ⟨by rfl, ?_⟩) (by assumption) ?_
            rotate_left
            · intro w hSw
              try dsimp only at hSw
              go_simp
              try with_reducible rfl
            try simp only [List.getElem_toArray, List.getElem_cons_succ, List.getElem_cons_zero, Act.put, List.setIfInBounds_toArray, List.set_cons_zero, List.set_cons_succ]
            refine wpAnyH_take (i := 14) (v := ?_) rfl (by kernel_rfl) (by kernel_rfl) (by kernel_rfl) (fun _ _ _ h => h) (Or.inl ⟨by rfl, ?_⟩) (by assumption) ?_
            rotate_left
            · intro w hSw
              try dsimp only at hSw
              go_simp
              try with_reducible rfl
            try simp only [List.getElem_toArray, List.getElem_cons_succ, List.getElem_cons_zero, Act.put, List.setIfInBounds_toArray, List.set_cons_zero, List.set_cons_succ]
            refine wpAnyH_ready (rs := [9]) (by kernel_rfl) (by simp) ?_
            refine AllReadyH.cons rfl (fun Kc hKc => ?_) AllReadyH.nil
            go_simp
            refine hKc.out _ _ (by (try dsimp only); all_goals trivial) (fun hHeld => ?_)
            clear hKc Kc
            try simp only [List.getElem_toArray, List.getElem_cons_succ, List.getElem_cons_zero, Act.put, List.setIfInBounds_toArray, List.set_cons_zero, List.set_cons_succ]
            refine wpAnyH_take (i := 15) (v := ?_) rfl (by kernel_rfl) (by kernel_rfl) (by kernel_rfl) (fun _ _ _ h => h) (Or.inl ⟨by rfl, ?_⟩) (by assumption) ?_
            rotate_left
            · intro w hSw
              try dsimp only at hSw
              go_simp
              try with_reducible rfl
            try simp only [List.getElem_toArray, List.getElem_cons_succ, List.getElem_cons_zero, Act.put, List.setIfInBounds_toArray, List.set_cons_zero, List.set_cons_succ]
            refine wpAnyH_take (i := 16) (v := ?_) rfl (by kernel_rfl) (by kernel_rfl) (by kernel_rfl) (fun _ _ _ h => h) (Or.inl ⟨by rfl, ?_⟩) (by assumption) ?_
            rotate_left
            · intro w hSw
              try dsimp only at hSw
              go_simp
              try with_reducible rfl
            try simp only [List.getElem_toArray, List.getElem_cons_succ, List.getElem_cons_zero, Act.put, List.setIfInBounds_toArray, List.set_cons_zero, List.set_cons_succ]
            refine wpAnyH_ready (rs := [17]) (by kernel_rfl) (by simp) ?_
            refine AllReadyH.cons rfl (fun Kc hKc => ?_) AllReadyH.nil
            go_simp
            refine hKc.out _ _ (by (try dsimp only); all_goals trivial) (fun hHeld => ?_)
            clear hKc Kc
            try simp only [List.getElem_toArray, List.getElem_cons_succ, List.getElem_cons_zero, Act.put, List.setIfInBounds_toArray, List.set_cons_zero, List.set_cons_succ]
            refine wpAnyH_done (by kernel_rfl) ?_ _
            have NB := Lib.hid (show BR (wr.setCell ⟨g, kk + 2, none⟩ (.int .u8 (bits .xor .u8 (c0.toNat : Int) (IntKind.u8.wrap ((m : Int) / 65536))))).drew g (flipJ S kk m (2 + 1)) by
              rw [HX.out, EF.out]
              exact (B1.out.set (kk + 2) (by rw [HFL.out]; omega) (c0 ^^^ mb m 2)).drew)
            have NM := Lib.hid ((P1.out.setCell (p := ⟨g, kk + 2, none⟩) (fun _ => rfl) (.int .u8 (bits .xor .u8 (c0.toNat : Int) (IntKind.u8.wrap ((m : Int) / 65536))))).drew)
            clear hcc hfc B1 P1 EF HX
            generalize (wr.setCell _ _).drew = wz at *
            go_wp2_with fail
            go_roundw
            case rel => exact ⟨2 + 1, by omega, by first | rfl | go_num, NB.out, NM.out⟩
            case measure => simp [intOf]
          · have q0 : IntKind.i64.wrap (kk : Int) = (kk : Int) := IntWalk.i64_in _ (by omega)
            have q5 : IntKind.i64.wrap 24 = 24 := by rfl
            have q1 : IntKind.i64.wrap ((kk : Int) + 3) = (kk : Int) + 3 := IntWalk.i64_in _ (by omega)
            have q4 : ((kk : Int) + 3).toNat = kk + 3 := by omega
            have q2 : (0 : Int) ≤ (kk : Int) + 3 := by omega
            have q3 : (kk : Int) + 3 < (sl : Int) := by omega
            obtain ⟨c0, hc0⟩ : ∃ c0, (flipJ S kk m 3).getD (kk + 3) 0 = c0 := ⟨_, rfl⟩
            have hcc := B1.out.cell (kk + 3) (by rw [HFL.out]; omega)
            have hfc := B1.out.free (kk + 3) (by rw [HFL.out]; omega)
            rw [hc0] at hcc
            have hX : bits .xor .u8 (c0.toNat : Int) (IntKind.u8.wrap ((m : Int) / 16777216)) = (((c0 ^^^ mb m 3).toNat : Nat) : Int) := by
              rw [← xor_mb, u8wrap]
              congr 1
              all_goals (rw [show 256 ^ 3 = 16777216 from rfl]; try omega)
            have EF := Lib.hid (show flipJ S kk m (3 + 1) = (flipJ S kk m 3).set (kk + 3) (c0 ^^^ mb m 3) by rw [flip_next]; rw [hc0])
            have HX := Lib.hid hX
            clear hc0 hX
            go_wp2_with fail
            refine wp_region_held_drew (S := fun _ => True) (by kernel_rfl) (by (try dsimp only); all_goals trivial) (fun hHeld => ?_)
            refine wpAnyH_take (i := 0) (v := ?_) rfl (by kernel_rfl) (by kernel_rfl) (by kernel_rfl) (fun _ _ _ h => h) (Or.inl ⟨by rfl, ?_⟩) (by assumption) ?_
            rotate_left
            · intro w hSw
              try dsimp only at hSw
              go_simp
              try with_reducible rfl
            try simp only [List.getElem_toArray, List.getElem_cons_succ, List.getElem_cons_zero, Act.put, List.setIfInBounds_toArray, List.set_cons_zero, List.set_cons_succ]
            refine wpAnyH_take (i := 1) (v := ?_) rfl (by kernel_rfl) (by kernel_rfl) (by kernel_rfl) (fun _ _ _ h => h) (Or.inl ⟨by rfl, ?_⟩) (by assumption) ?_
            rotate_left
            · intro w hSw
              try dsimp only at hSw
              go_simp
              try with_reducible rfl
            try simp only [List.getElem_toArray, List.getElem_cons_succ, List.getElem_cons_zero, Act.put, List.setIfInBounds_toArray, List.set_cons_zero, List.set_cons_succ]
            refine wpAnyH_take (i := 2) (v := ?_) rfl (by kernel_rfl) (by kernel_rfl) (by kernel_rfl) (fun _ _ _ h => h) (Or.inl ⟨by rfl, ?_⟩) (by assumption) ?_
            rotate_left
            · intro w hSw
              try dsimp only at hSw
              go_simp
              try with_reducible rfl
            try simp only [List.getElem_toArray, List.getElem_cons_succ, List.getElem_cons_zero, Act.put, List.setIfInBounds_toArray, List.set_cons_zero, List.set_cons_succ]
            refine wpAnyH_take (i := 3) (v := ?_) rfl (by kernel_rfl) (by kernel_rfl) (by kernel_rfl) (fun _ _ _ h => h) (Or.inl ⟨by rfl, ?_⟩) (by assumption) ?_
            rotate_left
            · intro w hSw
              try dsimp only at hSw
              go_simp
              try with_reducible rfl
            try simp only [List.getElem_toArray, List.getElem_cons_succ, List.getElem_cons_zero, Act.put, List.setIfInBounds_toArray, List.set_cons_zero, List.set_cons_succ]
            refine wpAnyH_take (i := 4) (v := ?_) rfl (by kernel_rfl) (by kernel_rfl) (by kernel_rfl) (fun _ _ _ h => h) (Or.inl ⟨by rfl, ?_⟩) (by assumption) ?_
            rotate_left
            · intro w hSw
              try dsimp only at hSw
              go_simp
              try with_reducible rfl
            try simp only [List.getElem_toArray, List.getElem_cons_succ, List.getElem_cons_zero, Act.put, List.setIfInBounds_toArray, List.set_cons_zero, List.set_cons_succ]
            refine wpAnyH_take (i := 5) (v := ?_) rfl (by kernel_rfl) (by kernel_rfl) (by kernel_rfl) (fun _ _ _ h => h) (Or.inl ⟨by rfl, ?_⟩) (by assumption) ?_
            rotate_left
            · intro w hSw
              try dsimp only at hSw
              go_simp
              try with_reducible rfl
            try simp only [List.getElem_toArray, List.getElem_cons_succ, List.getElem_cons_zero, Act.put, List.setIfInBounds_toArray, List.set_cons_zero, List.set_cons_succ]
            refine wpAnyH_take (i := 6) (v := ?_) rfl (by kernel_rfl) (by kernel_rfl) (by kernel_rfl) (fun _ _ _ h => h) (Or.inl ⟨by rfl, ?_⟩) (by assumption) ?_
            rotate_left
            · intro w hSw
              try dsimp only at hSw
              go_simp
              try with_reducible rfl
            try simp only [List.getElem_toArray, List.getElem_cons_succ, List.getElem_cons_zero, Act.put, List.setIfInBounds_toArray, List.set_cons_zero, List.set_cons_succ]
            refine wpAnyH_take (i := 7) (v := ?_) rfl (by kernel_rfl) (by kernel_rfl) (by kernel_rfl) (fun _ _ _ h => h) (Or.inl ⟨by rfl, ?_⟩) (by assumption) ?_
            rotate_left
            · intro w hSw
              try dsimp only at hSw
              go_simp
              try with_reducible rfl
            try simp only [List.getElem_toArray, List.getElem_cons_succ, List.getElem_cons_zero, Act.put, List.setIfInBounds_toArray, List.set_cons_zero, List.set_cons_succ]
            refine wpAnyH_take (i := 8) (v := ?_) rfl (by kernel_rfl) (by kernel_rfl) (by kernel_rfl) (fun _ _ _ h => h) (Or.inl ⟨by rfl, ?_⟩) (by assumption) ?_
            rotate_left
            · intro w hSw
              try dsimp only at hSw
              go_simp
              try with_reducible rfl
            try simp only [List.getElem_toArray, List.getElem_cons_succ, List.getElem_cons_zero, Act.put, List.setIfInBounds_toArray, List.set_cons_zero, List.set_cons_succ]
            refine wpAnyH_take (i := 10) (v := ?_) rfl (by kernel_rfl) (by kernel_rfl) (by kernel_rfl) (fun _ _ _ h => h) (Or.inl ⟨by rfl, ?_⟩) (by assumption) ?_
            rotate_left
            · intro w hSw
              try dsimp only at hSw
              go_simp
              try with_reducible rfl
            try simp only [List.getElem_toArray, List.getElem_cons_succ, List.getElem_cons_zero, Act.put, List.setIfInBounds_toArray, List.set_cons_zero, List.set_cons_succ]
            refine wpAnyH_take (i := 11) (v := ?_) rfl (by kernel_rfl) (by kernel_rfl) (by kernel_rfl) (fun _ _ _ h => h) (Or.inl ⟨by rfl, ?_⟩) (by assumption) ?_
            rotate_left
            · intro w hSw
              try dsimp only at hSw
              go_simp
              try with_reducible rfl
            try simp only [List.getElem_toArray, List.getElem_cons_succ, List.getElem_cons_zero, Act.put, List.setIfInBounds_toArray, List.set_cons_zero, List.set_cons_succ]
            refine wpAnyH_take (i := 12) (v := ?_) rfl (by kernel_rfl) (by kernel_rfl) (by kernel_rfl) (fun _ _ _ h => h) (Or.inl ⟨by rfl, ?_⟩) (by assumption) ?_
            rotate_left
            · intro w hSw
              try dsimp only at hSw
              go_simp
              try with_reducible rfl
            try simp only [List.getElem_toArray, List.getElem_cons_succ, List.getElem_cons_zero, Act.put, List.setIfInBounds_toArray, List.set_cons_zero, List.set_cons_succ]
            refine wpAnyH_take (i := 13) (v := ?_) rfl (by kernel_rfl) (by kernel_rfl) (by kernel_rfl) (fun _ _ _ h => h) (Or.inl ⟨by rfl, ?_⟩) (by assumption) ?_
            rotate_left
            · intro w hSw
              try dsimp only at hSw
              go_simp
              try with_reducible rfl
            try simp only [List.getElem_toArray, List.getElem_cons_succ, List.getElem_cons_zero, Act.put, List.setIfInBounds_toArray, List.set_cons_zero, List.set_cons_succ]
            refine wpAnyH_take (i := 14) (v := ?_) rfl (by kernel_rfl) (by kernel_rfl) (by kernel_rfl) (fun _ _ _ h => h) (Or.inl ⟨by rfl, ?_⟩) (by assumption) ?_
            rotate_left
            · intro w hSw
              try dsimp only at hSw
              go_simp
              try with_reducible rfl
            try simp only [List.getElem_toArray, List.getElem_cons_succ, List.getElem_cons_zero, Act.put, List.setIfInBounds_toArray, List.set_cons_zero, List.set_cons_succ]
            refine wpAnyH_ready (rs := [9]) (by kernel_rfl) (by simp) ?_
            refine AllReadyH.cons rfl (fun Kc hKc => ?_) AllReadyH.nil
            go_simp
            refine hKc.out _ _ (by (try dsimp only); all_goals trivial) (fun hHeld => ?_)
            clear hKc Kc
            try simp only [List.getElem_toArray, List.getElem_cons_succ, List.getElem_cons_zero, Act.put, List.setIfInBounds_toArray, List.set_cons_zero, List.set_cons_succ]
            refine wpAnyH_take (i := 15) (v := ?_) rfl (by kernel_rfl) (by kernel_rfl) (by kernel_rfl) (fun _ _ _ h => h) (Or.inl ⟨by rfl, ?_⟩) (by assumption) ?_
            rotate_left
            · intro w hSw
              try dsimp only at hSw
              go_simp
              try with_reducible rfl
            try simp only [List.getElem_toArray, List.getElem_cons_succ, List.getElem_cons_zero, Act.put, List.setIfInBounds_toArray, List.set_cons_zero, List.set_cons_succ]
            refine wpAnyH_take (i := 16) (v := ?_) rfl (by kernel_rfl) (by kernel_rfl) (by kernel_rfl) (fun _ _ _ h => h) (Or.inl ⟨by rfl, ?_⟩) (by assumption) ?_
            rotate_left
            · intro w hSw
              try dsimp only at hSw
              go_simp
              try with_reducible rfl
            try simp only [List.getElem_toArray, List.getElem_cons_succ, List.getElem_cons_zero, Act.put, List.setIfInBounds_toArray, List.set_cons_zero, List.set_cons_succ]
            refine wpAnyH_ready (rs := [17]) (by kernel_rfl) (by simp) ?_
            refine AllReadyH.cons rfl (fun Kc hKc => ?_) AllReadyH.nil
            go_simp
            refine hKc.out _ _ (by (try dsimp only); all_goals trivial) (fun hHeld => ?_)
            clear hKc Kc
            try simp only [List.getElem_toArray, List.getElem_cons_succ, List.getElem_cons_zero, Act.put, List.setIfInBounds_toArray, List.set_cons_zero, List.set_cons_succ]
            refine wpAnyH_done (by kernel_rfl) ?_ _
            have NB := Lib.hid (show BR (wr.setCell ⟨g, kk + 3, none⟩ (.int .u8 (bits .xor .u8 (c0.toNat : Int) (IntKind.u8.wrap ((m : Int) / 16777216))))).drew g (flipJ S kk m (3 + 1)) by
              rw [HX.out, EF.out]
              exact (B1.out.set (kk + 3) (by rw [HFL.out]; omega) (c0 ^^^ mb m 3)).drew)
            have NM := Lib.hid ((P1.out.setCell (p := ⟨g, kk + 3, none⟩) (fun _ => rfl) (.int .u8 (bits .xor .u8 (c0.toNat : Int) (IntKind.u8.wrap ((m : Int) / 16777216))))).drew)
            clear hcc hfc B1 P1 EF HX
            generalize (wr.setCell _ _).drew = wz at *
            go_wp2_with fail
            go_roundw
            case rel => exact ⟨3 + 1, by omega, by first | rfl | go_num, NB.out, NM.out⟩
            case measure => simp [intOf]
        · obtain rfl : j = 4 := by omega
          have kc2 := run_convert_bytes_arg (P := Tryz.prog) wr 64 5 Tryz.underlying64 Tryz.underlying5 g 0 sl cap ((flipJ S kk m 4).map fun b => (b.toNat : Int)) (by rw [List.length_map, HFL.out]) (fun i hi => by
            rw [Nat.zero_add]
            refine (B1.out.cell i (by rw [HFL.out]; exact hi)).trans ?_
            have hi2 : i < (flipJ S kk m 4).length := by rw [HFL.out]; exact hi
            rw [List.getD_eq_getElem?_getD, List.getD_eq_getElem?_getD, List.getElem?_map, List.getElem?_eq_getElem hi2]; rfl) 9 Tryz.underlying9
          rw [strOfNums_bytes] at kc2
          have J1 := Lib.hid (J0.out.then_ P1.out (fun i hi (e : i = g) => by omega))
          have HPz := Lib.hid (fun w => parse_all (flipJ S kk m 4) (by rw [HFL.out]; omega) w)
          by_cases hm0 : m = 0
          · subst hm0
            rw [flip_zero, HBk.out] at HPz
            unfold ParseR at HPz
            dsimp only at HPz
            rw [flip_zero] at kc2
            clear B1 P1 HFL
            go_wp2_with fail
            refine (HPz.out _).mono ?_
            rintro e wF ⟨⟨a9, c9, rfl, _⟩, MF⟩
            have J2 := Lib.hid (J1.out.same MF)
            clear MF kc2 J1
            go_wp2
            exact HR.out _ _ ⟨rfl, J2.out⟩
          · have hpz : parseK (flipJ S kk m 4) = none := by
              unfold parseK
              rw [HBu.out kk (by rw [HSl.out]; omega) hm0]
            rw [hpz] at HPz
            unfold ParseR at HPz
            dsimp only at HPz
            have hmz : ((m : Int) == 0) = false := by
              rw [beq_eq_false_iff_ne]; omega
            clear B1 P1 HFL hpz hm0
            generalize flipJ S kk m 4 = F at *
            go_wp2_with fail
            refine (HPz.out _).mono ?_
            rintro e wF ⟨rfl, MF⟩
            have J2 := Lib.hid (J1.out.same MF)
            clear MF kc2 J1
            go_wp2
            exact HR.out _ _ ⟨rfl, J2.out⟩

end Go.Proofs.YtdengmlidckkeaaGreatDoor
