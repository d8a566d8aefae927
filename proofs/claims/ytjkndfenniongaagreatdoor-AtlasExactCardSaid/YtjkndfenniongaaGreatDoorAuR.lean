import Derived.Test.YtjkndfenniongaaGreatDoorAuA
import Derived.Laws.BitsAllLaws
import Derived.Laws.BytesArg
import Derived.Deep.AppendLies
import Derived.Deep.RegionHeld3
import Derived.Deep.RegionLaw
set_option linter.unusedSimpArgs false
set_option linter.unusedVariables false
/- The document's numbers, sums and seals. -/
namespace Go.Proofs.YtjkndfenniongaaGreatDoor
open Go Go.RowKit
theorem strOfNums_bytes (l : List UInt8) : strOfNums (l.map fun b => (b.toNat : Int)) = ⟨l.toArray⟩ := by
  unfold strOfNums
  congr 2
  rw [List.map_map]
  conv => rhs; rw [← List.map_id l]
  apply List.map_congr_left
  intro b _
  simp
set_option maxRecDepth 10000 in
/-- One bit of the register, in natural numbers. -/
def tB (c : Nat) : Nat := if c % 2 = 1 then (c / 2) ^^^ 2197175160 else c / 2
def tN (c : Nat) : Nat → Nat
  | 0 => c
  | j + 1 => tB (tN c j)
theorem xor_lt32 {a b : Nat} (ha : a < 4294967296) (hb : b < 4294967296) : a ^^^ b < 4294967296 := Nat.xor_lt_two_pow (n := 32) ha hb
theorem tB_lt {c : Nat} (h : c < 4294967296) : tB c < 4294967296 := by
  unfold tB
  split
  · exact xor_lt32 (by omega) (by decide)
  · omega
theorem tN_lt {c : Nat} (h : c < 4294967296) : ∀ j, tN c j < 4294967296
  | 0 => h
  | j + 1 => tB_lt (tN_lt h j)
theorem tB_xor (a b : Nat) : tB (a ^^^ b) = tB a ^^^ tB b := by
  unfold tB
  have h2 : (a ^^^ b) / 2 = a / 2 ^^^ b / 2 := Nat.xor_div_two
  have h1 : (a ^^^ b) % 2 = 1 ↔ ¬ (a % 2 = 1 ↔ b % 2 = 1) := Nat.xor_mod_two_eq_one
  rw [h2]
  by_cases ha : a % 2 = 1
  · by_cases hb : b % 2 = 1
    · rw [if_neg (by rw [h1]; simp [ha, hb]), if_pos ha, if_pos hb]
      generalize a / 2 = x
      generalize b / 2 = y
      rw [Nat.xor_assoc, Nat.xor_comm 2197175160, Nat.xor_assoc y, Nat.xor_self, Nat.xor_zero]
    · rw [if_pos (by rw [h1]; simp [ha, hb]), if_pos ha, if_neg hb]
      rw [Nat.xor_assoc, Nat.xor_assoc, Nat.xor_comm (b / 2)]
  · by_cases hb : b % 2 = 1
    · rw [if_pos (by rw [h1]; simp [ha, hb]), if_neg ha, if_pos hb, Nat.xor_assoc]
    · rw [if_neg (by rw [h1]; simp [ha, hb]), if_neg ha, if_neg hb]
theorem tN_xor (a b : Nat) : ∀ j, tN (a ^^^ b) j = tN a j ^^^ tN b j
  | 0 => rfl
  | j + 1 => by rw [tN, tN, tN, tN_xor a b j, tB_xor]
theorem xor_zero_eq {a b : Nat} (h : a ^^^ b = 0) : a = b := by
  have : a ^^^ b ^^^ b = b := by rw [h, Nat.zero_xor]
  rwa [Nat.xor_assoc, Nat.xor_self, Nat.xor_zero] at this
theorem tB_zero {c : Nat} (h : c < 4294967296) (h0 : tB c = 0) : c = 0 := by
  unfold tB at h0
  split at h0
  · have := xor_zero_eq h0; omega
  · omega
theorem tN_zero {c : Nat} (h : c < 4294967296) : ∀ j, tN c j = 0 → c = 0
  | 0, h0 => h0
  | j + 1, h0 => tN_zero h j (tB_zero (tN_lt h j) h0)
theorem tN_add (c i : Nat) : ∀ j, tN c (i + j) = tN (tN c i) j
  | 0 => rfl
  | j + 1 => by rw [← Nat.add_assoc, tN, tN, tN_add c i j]
theorem tB_two (x : Nat) : tB (2 * x) = x := by unfold tB; rw [if_neg (by omega)]; omega
theorem tN_shift (x : Nat) : ∀ j, tN (2 ^ j * x) j = x
  | 0 => by show 2 ^ 0 * x = x; omega
  | j + 1 => by
    rw [Nat.add_comm j 1, tN_add]
    have : tN (2 ^ (1 + j) * x) 1 = 2 ^ j * x := by
      show tB (2 ^ (1 + j) * x) = _
      rw [Nat.add_comm 1 j, Nat.pow_succ, Nat.mul_comm (2 ^ j) 2, Nat.mul_assoc, tB_two]
    rw [this, tN_shift x j]
/-- Four bytes as a number. -/
def w4 (a b c d : Nat) : Nat := a ^^^ (2 ^ 8 * b) ^^^ (2 ^ 16 * c) ^^^ (2 ^ 24 * d)
/-- The register behind bytes. -/
def rg (c : Nat) : List UInt8 → Nat
  | [] => c
  | b :: l => rg (tN (c ^^^ b.toNat) 8) l
theorem rg_append (c : Nat) (a b : List UInt8) : rg c (a ++ b) = rg (rg c a) b := by
  induction a generalizing c with
  | nil => rfl
  | cons x a ih => exact ih _
theorem rg_lt {c : Nat} (h : c < 4294967296) : ∀ l : List UInt8, rg c l < 4294967296
  | [] => h
  | b :: l => by
    have hb := b.toNat_lt
    exact rg_lt (tN_lt (xor_lt32 h (by omega)) 8) l
theorem rg_xor (c d : Nat) : ∀ l : List UInt8, rg (c ^^^ d) l = rg c l ^^^ tN d (8 * l.length)
  | [] => rfl
  | b :: l => by
    show rg (tN (c ^^^ d ^^^ b.toNat) 8) l = rg (tN (c ^^^ b.toNat) 8) l ^^^ _
    rw [show c ^^^ d ^^^ b.toNat = (c ^^^ b.toNat) ^^^ d by rw [Nat.xor_assoc, Nat.xor_assoc, Nat.xor_comm d], tN_xor, rg_xor _ _ l, List.length_cons, show 8 * (l.length + 1) = 8 + 8 * l.length by omega, tN_add]
theorem rg_four (c : Nat) (x0 x1 x2 x3 : UInt8) : rg c [x0, x1, x2, x3] = tN (c ^^^ w4 x0.toNat x1.toNat x2.toNat x3.toNat) 32 := by
  have h1 := tN_shift x1.toNat 8
  have h2 := tN_shift x2.toNat 16
  have h3 := tN_shift x3.toNat 24
  show tN (tN (tN (tN (c ^^^ x0.toNat) 8 ^^^ x1.toNat) 8 ^^^ x2.toNat) 8 ^^^ x3.toNat) 8 = _
  have e1 : tN (c ^^^ x0.toNat) 8 ^^^ x1.toNat = tN (c ^^^ x0.toNat ^^^ 2 ^ 8 * x1.toNat) 8 := by rw [tN_xor _ (2 ^ 8 * x1.toNat), h1]
  have e2 : tN (tN (c ^^^ x0.toNat) 8 ^^^ x1.toNat) 8 ^^^ x2.toNat = tN (c ^^^ x0.toNat ^^^ 2 ^ 8 * x1.toNat ^^^ 2 ^ 16 * x2.toNat) 16 := by rw [e1, ← tN_add, tN_xor _ (2 ^ 16 * x2.toNat), h2]
  have e3 : tN (tN (tN (c ^^^ x0.toNat) 8 ^^^ x1.toNat) 8 ^^^ x2.toNat) 8 ^^^ x3.toNat = tN (c ^^^ x0.toNat ^^^ 2 ^ 8 * x1.toNat ^^^ 2 ^ 16 * x2.toNat ^^^ 2 ^ 24 * x3.toNat) 24 := by rw [e2, ← tN_add, tN_xor _ (2 ^ 24 * x3.toNat), h3]
  rw [e3, ← tN_add]
  unfold w4
  simp only [Nat.xor_assoc]
theorem xor_add (k a b : Nat) (h : a < 2 ^ k) : a ^^^ 2 ^ k * b = 2 ^ k * b + a := by
  apply Nat.eq_of_testBit_eq
  intro j
  rw [Nat.testBit_xor, Nat.testBit_two_pow_mul_add _ h, Nat.testBit_two_pow_mul]
  by_cases hj : j < k
  · rw [if_pos hj, decide_eq_false (by omega)]; simp
  · rw [if_neg hj, decide_eq_true (by omega), Nat.testBit_lt_two_pow (Nat.lt_of_lt_of_le h (Nat.pow_le_pow_right (by omega) (by omega)))]; simp
theorem w4_of (s : Nat) (h : s < 4294967296) : w4 (s % 256) (s / 256 % 256) (s / 65536 % 256) (s / 16777216 % 256) = s := by
  unfold w4
  rw [xor_add 8 _ _ (by omega), xor_add 16 _ _ (by omega), xor_add 24 _ _ (by omega)]
  omega
theorem w4_xor (a b c d a' b' c' d' : Nat) : w4 (a ^^^ a') (b ^^^ b') (c ^^^ c') (d ^^^ d') = w4 a b c d ^^^ w4 a' b' c' d' := by
  have hm : ∀ k x y : Nat, 2 ^ k * (x ^^^ y) = 2 ^ k * x ^^^ 2 ^ k * y := fun k x y => by
    rw [Nat.mul_comm, Nat.mul_comm _ x, Nat.mul_comm _ y, ← Nat.shiftLeft_eq, ← Nat.shiftLeft_eq, ← Nat.shiftLeft_eq, Nat.shiftLeft_xor_distrib]
  unfold w4
  rw [hm, hm, hm]
  ac_rfl
/-- The sum, in natural numbers. -/
theorem bitStep_nat (c : Nat) (h : c < 4294967296) : bitStep (c : Int) = (tB c : Int) := by
  unfold bitStep tB
  have e : bits .and .u32 (c : Int) 1 = ((c % 2 : Nat) : Int) := by
    have := u32_and_nat c 1 h (by decide)
    rw [Nat.and_one_is_mod] at this
    exact this
  rw [e]
  have e2 : ((c : Int) / 2) = ((c / 2 : Nat) : Int) := by omega
  by_cases hc : c % 2 = 1
  · rw [if_pos hc, if_pos (by rw [hc]; rfl), e2]
    exact u32_xor_nat (c / 2) 2197175160 (by omega) (by decide)
  · rw [if_neg hc, if_neg (by omega), e2]
theorem bitN_nat (c : Nat) (h : c < 4294967296) : ∀ j, bitN (c : Int) j = (tN c j : Int)
  | 0 => rfl
  | j + 1 => by rw [bitN, bitN_nat c h j, bitStep_nat _ (tN_lt h j)]; rfl
theorem stepI_nat (c : Nat) (b : UInt8) (h : c < 4294967296) : stepI (c : Int) (b.toNat : Int) = (tN (c ^^^ b.toNat) 8 : Int) := by
  have hb := b.toNat_lt
  unfold stepI
  rw [show ((b.toNat : Int) % 4294967296) = (b.toNat : Int) by omega, u32_xor_nat c b.toNat h (by omega), bitN_nat _ (xor_lt32 h (by omega))]
theorem sumFrom_nat (c : Nat) (h : c < 4294967296) : ∀ l : List UInt8, sumFrom (c : Int) l = (rg c l : Int)
  | [] => rfl
  | b :: l => by
    have hb := b.toNat_lt
    rw [sumFrom, stepI_nat c b h, sumFrom_nat _ (tN_lt (xor_lt32 h (by omega)) 8) l]; rfl
theorem sumL_nat (l : List UInt8) : sumL l = ((rg 4294967295 l ^^^ 4294967295 : Nat) : Int) := by
  unfold sumL
  have := sumFrom_nat 4294967295 (by decide) l
  rw [show sumFrom 4294967295 l = (rg 4294967295 l : Int) from this]
  exact u32_xor_nat _ 4294967295 (rg_lt (by decide) l) (by decide)
theorem refSize_any (n : Int) (w : World) : Calls Tryz.prog 99 #[.int .i64 n] w fun e w' => e = .returned (.int .i64 (min (max n 1) 8)) ∧ w' = w := by
  refine opq fun R HR => ?_
  go_enter Tryz.func99, Tryz.ntmps99
  go_wp2
  exact HR.out _ _ ⟨rfl, rfl⟩
set_option maxRecDepth 10000 in
set_option maxHeartbeats 4000000 in
theorem refB_any (n sz : Int) (hn : U64 n) (k : Nat) (hk : min (max sz 1) 8 = (k : Int)) (w : World) : Calls Tryz.prog 88 #[.int .u64 n, .int .i64 sz] w fun e w' => e = .returned (.string ⟨(leB n k).toArray⟩) ∧ Same w w' := by
  refine opq fun R HR => ?_
  have hk1 : 1 ≤ k := by omega
  have hk8 : k ≤ 8 := by omega
  have HS := Lib.hid (fun w => refSize_any sz w)
  rw [hk] at HS
  obtain ⟨i0, hi, hz0, hz1, hz2⟩ := info_parts info5
  have I0 := Lib.hid hi
  have Z0 := Lib.hid hz0
  have Z1 := Lib.hid hz1
  have Z2 := Lib.hid hz2
  obtain ⟨hn0, hn1⟩ := hn
  clear hi hz0 hz1 hz2 hk
  go_enter Tryz.func88, Tryz.ntmps88
  go_wp2_with fail
  go_loopw [5, 6] (fun v i wr => ∃ j : Nat, j ≤ k ∧ i = .int .i64 (j : Int) ∧ wr.ownsRow w.heap.size 5 1 v j (Lib.byteCells (leB n j)) ∧ Same w wr) (fun _ i _ => k - (intOf i).toNat)
  case atStart => exact ⟨0, by omega, rfl, ⟨rfl, .inr ⟨_, 0, #[], rfl, Nat.le_refl _, heap_new _ _, Nat.le_refl _, by unfold maxLen; omega, rfl, rfl⟩⟩, (Mod.refl _ _).alloc _⟩
  case round =>
    obtain ⟨j, hj, rfl, hown, hM⟩ := hrel
    have K1 := Lib.hid hown
    have K2 := Lib.hid hM
    have hsz := hM.size
    clear hown hM
    have HS1 := Lib.hid (HS.out wr)
    by_cases hlt : j < k
    · have E := Lib.hid (put_cells [] n j)
      simp only [List.nil_append] at E
      have hll : j + 1 ≤ maxLen := by unfold maxLen; omega
      have hlm : (j + 1) * 1 ≤ 140737488355328 := by omega
      have hjk : j = 0 ∨ j = 1 ∨ j = 2 ∨ j = 3 ∨ j = 4 ∨ j = 5 ∨ j = 6 ∨ j = 7 := by omega
      rcases hjk with rfl | rfl | rfl | rfl | rfl | rfl | rfl | rfl
      · have EV := Lib.hid (show (n / 256 ^ 0 : Int) = n by rw [Int.pow_zero, Int.ediv_one])
        rw [EV.out] at E
        go_wp2_with fail
        refine HS1.out.mono ?_
        rintro e wq ⟨rfl, rfl⟩
        have hjlt : ((0 : Nat) : Int) < (k : Int) := by omega
        go_wp2_with (at_builtin; refine wpList_append_own _ rfl (.tmp 14) (.tmp 20) 40 rfl w.heap.size 5 i0 (.int .u8 0) 1 1 Tryz.underlying40 I0.out Z0.out Z1.out Z2.out rfl (by decide) _ _ _ rfl (K1.out.alloc _) ⟨wq.heap.size, 0, none⟩ 1 1 [.int .u8 (IntKind.u8.wrap n)] rfl rfl (one_new _ _ _) (fun u hu => (by simp at hu; subst hu; rfl)) hll hlm (by simp only [World.size_alloc]; omega) ?_; intro v' w3 hown' hgrow _)
        have P1 := Lib.hid (same_append K2.out K1.out hgrow)
        have P2 := Lib.hid hown'
        clear hown' hgrow
        go_roundw
        case rel => exact ⟨0 + 1, by omega, by first | rfl | go_num, by rw [E.out]; exact P2.out, P1.out⟩
        case measure => simp [intOf]; omega
      · have EV := Lib.hid (show (n / 256 ^ 1 : Int) = n / 256 by rfl)
        rw [EV.out] at E
        go_wp2_with fail
        refine HS1.out.mono ?_
        rintro e wq ⟨rfl, rfl⟩
        have hjlt : ((1 : Nat) : Int) < (k : Int) := by omega
        go_wp2_with (at_builtin; refine wpList_append_own _ rfl (.tmp 14) (.tmp 20) 40 rfl w.heap.size 5 i0 (.int .u8 0) 1 1 Tryz.underlying40 I0.out Z0.out Z1.out Z2.out rfl (by decide) _ _ _ rfl (K1.out.alloc _) ⟨wq.heap.size, 0, none⟩ 1 1 [.int .u8 (IntKind.u8.wrap (n / 256))] rfl rfl (one_new _ _ _) (fun u hu => (by simp at hu; subst hu; rfl)) hll hlm (by simp only [World.size_alloc]; omega) ?_; intro v' w3 hown' hgrow _)
        have P1 := Lib.hid (same_append K2.out K1.out hgrow)
        have P2 := Lib.hid hown'
        clear hown' hgrow
        go_roundw
        case rel => exact ⟨1 + 1, by omega, by first | rfl | go_num, by rw [E.out]; exact P2.out, P1.out⟩
        case measure => simp [intOf]; omega
      · have EV := Lib.hid (show (n / 256 ^ 2 : Int) = n / 65536 by rfl)
        rw [EV.out] at E
        go_wp2_with fail
        refine HS1.out.mono ?_
        rintro e wq ⟨rfl, rfl⟩
        have hjlt : ((2 : Nat) : Int) < (k : Int) := by omega
        go_wp2_with (at_builtin; refine wpList_append_own _ rfl (.tmp 14) (.tmp 20) 40 rfl w.heap.size 5 i0 (.int .u8 0) 1 1 Tryz.underlying40 I0.out Z0.out Z1.out Z2.out rfl (by decide) _ _ _ rfl (K1.out.alloc _) ⟨wq.heap.size, 0, none⟩ 1 1 [.int .u8 (IntKind.u8.wrap (n / 65536))] rfl rfl (one_new _ _ _) (fun u hu => (by simp at hu; subst hu; rfl)) hll hlm (by simp only [World.size_alloc]; omega) ?_; intro v' w3 hown' hgrow _)
        have P1 := Lib.hid (same_append K2.out K1.out hgrow)
        have P2 := Lib.hid hown'
        clear hown' hgrow
        go_roundw
        case rel => exact ⟨2 + 1, by omega, by first | rfl | go_num, by rw [E.out]; exact P2.out, P1.out⟩
        case measure => simp [intOf]; omega
      · have EV := Lib.hid (show (n / 256 ^ 3 : Int) = n / 16777216 by rfl)
        rw [EV.out] at E
        go_wp2_with fail
        refine HS1.out.mono ?_
        rintro e wq ⟨rfl, rfl⟩
        have hjlt : ((3 : Nat) : Int) < (k : Int) := by omega
        go_wp2_with (at_builtin; refine wpList_append_own _ rfl (.tmp 14) (.tmp 20) 40 rfl w.heap.size 5 i0 (.int .u8 0) 1 1 Tryz.underlying40 I0.out Z0.out Z1.out Z2.out rfl (by decide) _ _ _ rfl (K1.out.alloc _) ⟨wq.heap.size, 0, none⟩ 1 1 [.int .u8 (IntKind.u8.wrap (n / 16777216))] rfl rfl (one_new _ _ _) (fun u hu => (by simp at hu; subst hu; rfl)) hll hlm (by simp only [World.size_alloc]; omega) ?_; intro v' w3 hown' hgrow _)
        have P1 := Lib.hid (same_append K2.out K1.out hgrow)
        have P2 := Lib.hid hown'
        clear hown' hgrow
        go_roundw
        case rel => exact ⟨3 + 1, by omega, by first | rfl | go_num, by rw [E.out]; exact P2.out, P1.out⟩
        case measure => simp [intOf]; omega
      · have EV := Lib.hid (show (n / 256 ^ 4 : Int) = n / 4294967296 by rfl)
        rw [EV.out] at E
        go_wp2_with fail
        refine HS1.out.mono ?_
        rintro e wq ⟨rfl, rfl⟩
        have hjlt : ((4 : Nat) : Int) < (k : Int) := by omega
        go_wp2_with (at_builtin; refine wpList_append_own _ rfl (.tmp 14) (.tmp 20) 40 rfl w.heap.size 5 i0 (.int .u8 0) 1 1 Tryz.underlying40 I0.out Z0.out Z1.out Z2.out rfl (by decide) _ _ _ rfl (K1.out.alloc _) ⟨wq.heap.size, 0, none⟩ 1 1 [.int .u8 (IntKind.u8.wrap (n / 4294967296))] rfl rfl (one_new _ _ _) (fun u hu => (by simp at hu; subst hu; rfl)) hll hlm (by simp only [World.size_alloc]; omega) ?_; intro v' w3 hown' hgrow _)
        have P1 := Lib.hid (same_append K2.out K1.out hgrow)
        have P2 := Lib.hid hown'
        clear hown' hgrow
        go_roundw
        case rel => exact ⟨4 + 1, by omega, by first | rfl | go_num, by rw [E.out]; exact P2.out, P1.out⟩
        case measure => simp [intOf]; omega
      · have EV := Lib.hid (show (n / 256 ^ 5 : Int) = n / 1099511627776 by rfl)
        rw [EV.out] at E
        go_wp2_with fail
        refine HS1.out.mono ?_
        rintro e wq ⟨rfl, rfl⟩
        have hjlt : ((5 : Nat) : Int) < (k : Int) := by omega
        go_wp2_with (at_builtin; refine wpList_append_own _ rfl (.tmp 14) (.tmp 20) 40 rfl w.heap.size 5 i0 (.int .u8 0) 1 1 Tryz.underlying40 I0.out Z0.out Z1.out Z2.out rfl (by decide) _ _ _ rfl (K1.out.alloc _) ⟨wq.heap.size, 0, none⟩ 1 1 [.int .u8 (IntKind.u8.wrap (n / 1099511627776))] rfl rfl (one_new _ _ _) (fun u hu => (by simp at hu; subst hu; rfl)) hll hlm (by simp only [World.size_alloc]; omega) ?_; intro v' w3 hown' hgrow _)
        have P1 := Lib.hid (same_append K2.out K1.out hgrow)
        have P2 := Lib.hid hown'
        clear hown' hgrow
        go_roundw
        case rel => exact ⟨5 + 1, by omega, by first | rfl | go_num, by rw [E.out]; exact P2.out, P1.out⟩
        case measure => simp [intOf]; omega
      · have EV := Lib.hid (show (n / 256 ^ 6 : Int) = n / 281474976710656 by rfl)
        rw [EV.out] at E
        go_wp2_with fail
        refine HS1.out.mono ?_
        rintro e wq ⟨rfl, rfl⟩
        have hjlt : ((6 : Nat) : Int) < (k : Int) := by omega
        go_wp2_with (at_builtin; refine wpList_append_own _ rfl (.tmp 14) (.tmp 20) 40 rfl w.heap.size 5 i0 (.int .u8 0) 1 1 Tryz.underlying40 I0.out Z0.out Z1.out Z2.out rfl (by decide) _ _ _ rfl (K1.out.alloc _) ⟨wq.heap.size, 0, none⟩ 1 1 [.int .u8 (IntKind.u8.wrap (n / 281474976710656))] rfl rfl (one_new _ _ _) (fun u hu => (by simp at hu; subst hu; rfl)) hll hlm (by simp only [World.size_alloc]; omega) ?_; intro v' w3 hown' hgrow _)
        have P1 := Lib.hid (same_append K2.out K1.out hgrow)
        have P2 := Lib.hid hown'
        clear hown' hgrow
        go_roundw
        case rel => exact ⟨6 + 1, by omega, by first | rfl | go_num, by rw [E.out]; exact P2.out, P1.out⟩
        case measure => simp [intOf]; omega
      · have EV := Lib.hid (show (n / 256 ^ 7 : Int) = n / 72057594037927936 by rfl)
        rw [EV.out] at E
        have EW := Lib.hid (show IntKind.u8.wrap (n / 72057594037927936) = n / 72057594037927936 by rw [u8wrap]; omega)
        rw [EW.out] at E
        go_wp2_with fail
        refine HS1.out.mono ?_
        rintro e wq ⟨rfl, rfl⟩
        have hjlt : ((7 : Nat) : Int) < (k : Int) := by omega
        go_wp2_with (at_builtin; refine wpList_append_own _ rfl (.tmp 14) (.tmp 20) 40 rfl w.heap.size 5 i0 (.int .u8 0) 1 1 Tryz.underlying40 I0.out Z0.out Z1.out Z2.out rfl (by decide) _ _ _ rfl (K1.out.alloc _) ⟨wq.heap.size, 0, none⟩ 1 1 [.int .u8 (n / 72057594037927936)] rfl rfl (one_new _ _ _) (fun u hu => (by simp at hu; subst hu; rfl)) hll hlm (by simp only [World.size_alloc]; omega) ?_; intro v' w3 hown' hgrow _)
        have P1 := Lib.hid (same_append K2.out K1.out hgrow)
        have P2 := Lib.hid hown'
        clear hown' hgrow
        go_roundw
        case rel => exact ⟨7 + 1, by omega, by first | rfl | go_num, by rw [E.out]; exact P2.out, P1.out⟩
        case measure => simp [intOf]; omega
    · obtain rfl : j = k := by omega
      obtain ⟨g, cap, rfl, hg0, hgc, hrow⟩ := RowV.of_owns K1.out (by omega)
      have kc := run_convert_bytes_arg (P := Tryz.prog) wr 40 5 Tryz.underlying40 Tryz.underlying5 g 0 j cap ((leB n j).map fun b => (b.toNat : Int)) (by rw [List.length_map, leB_len]) (fun i hi => by
        rw [Nat.zero_add]
        refine (hrow.cell i (by omega)).trans ?_
        have hi2 : i < (leB n j).length := by rw [leB_len]; exact hi
        rw [List.getD_eq_getElem?_getD, List.getD_eq_getElem?_getD]
        unfold Lib.byteCells
        rw [List.getElem?_map, List.getElem?_map, List.getElem?_eq_getElem hi2]; rfl) 9 Tryz.underlying9
      rw [strOfNums_bytes] at kc
      clear hrow
      go_wp2_with fail
      refine HS1.out.mono ?_
      rintro e wq ⟨rfl, rfl⟩
      go_wp2
      exact HR.out _ _ ⟨rfl, K2.out⟩
theorem dropAt {l : List UInt8} {i : Nat} {c : UInt8} (h : l[i]? = some c) : l.drop i = c :: l.drop (i + 1) := by
  obtain ⟨q, rfl⟩ := List.getElem?_eq_some_iff.1 h
  exact List.drop_eq_getElem_cons q
theorem leV_drop (l : List UInt8) (q : Nat) (x : UInt8) (hx : l[q]? = some x) : leV (l.drop q) = x.toNat + 256 * leV (l.drop (q + 1)) := by
  rw [dropAt hx]; rfl
theorem leV_8 (l : List UInt8) (h : l.length ≤ 8) : 0 ≤ leV l ∧ leV l < 18446744073709551616 := by
  have h1 := leV_bd l
  refine ⟨h1.1, Int.lt_of_lt_of_le h1.2 ?_⟩
  have : l.length = 0 ∨ l.length = 1 ∨ l.length = 2 ∨ l.length = 3 ∨ l.length = 4 ∨ l.length = 5 ∨ l.length = 6 ∨ l.length = 7 ∨ l.length = 8 := by omega
  rcases this with e | e | e | e | e | e | e | e | e <;> rw [e] <;> decide
set_option maxRecDepth 10000 in
set_option maxHeartbeats 1000000 in
theorem refN_any (l : List UInt8) (hl : l.length ≤ 8) (w : World) : Calls Tryz.prog 63 #[.string ⟨l.toArray⟩] w fun e w' => e = .returned (.int .u64 (leV l)) ∧ w' = w := by
  refine opq fun R HR => ?_
  have hbs := bytes_size l
  go_enter Tryz.func63, Tryz.ntmps63
  go_wp2_with fail
  go_loopw [3, 4] (fun v i wr => ∃ (j : Nat), j ≤ l.length ∧ i = .int .i64 ((j : Int) - 1) ∧ v = .int .u64 (leV (l.drop j)) ∧ wr = w) (fun _ i _ => (intOf i + 1).toNat)
  case atStart => exact ⟨l.length, Nat.le_refl _, rfl, by rw [List.drop_length]; rfl, rfl⟩
  case round =>
    obtain ⟨j, hj, rfl, rfl, rfl⟩ := hrel
    by_cases hlt : 0 < j
    · obtain ⟨q, rfl⟩ : ∃ q, j = q + 1 := ⟨j - 1, by omega⟩
      rw [show ((q + 1 : Nat) : Int) - 1 = (q : Int) by omega]
      obtain ⟨x, hx⟩ : ∃ x, l[q]? = some x := ⟨_, List.getElem?_eq_getElem (by omega)⟩
      have kx := fun W => idx_any l q x hx (q : Int) rfl W
      have E := Lib.hid (leV_drop l q x hx)
      have h8 := leV_8 (l.drop q) (by rw [List.length_drop]; omega)
      have hx8 := x.toNat_lt
      rw [E.out] at h8
      have h0 := (leV_bd (l.drop (q + 1))).1
      clear hx
      generalize leV (l.drop (q + 1)) = v at *
      have w1 : IntKind.u64.wrap (v * 256) = v * 256 := wraps_u64 _ (by omega) (by omega)
      have w2 : IntKind.u64.wrap (x.toNat : Int) = (x.toNat : Int) := wraps_u64 _ (by omega) (by omega)
      have w3 : IntKind.u64.wrap (v * 256 + (x.toNat : Int)) = v * 256 + (x.toNat : Int) := wraps_u64 _ (by omega) (by omega)
      go_wp2_with fail
      go_roundw
      case rel => exact ⟨q, by omega, by first | rfl | go_num, by rw [E.out]; congr 1; omega, by first | rfl | trivial⟩
      case measure => simp [intOf]
    · obtain rfl : j = 0 := by omega
      rw [show ((0 : Nat) : Int) - 1 = -1 by rfl]
      rw [List.drop_zero]
      go_wp2
      exact HR.out _ _ ⟨rfl, rfl⟩
/-- The register inside a byte, as the document keeps it. -/
def cB (x b q : Nat) : Nat := tN (x ^^^ b) q ^^^ (b / 2 ^ q)
theorem cB_zero (x b : Nat) : cB x b 0 = x := by
  unfold cB
  rw [Nat.pow_zero, Nat.div_one]
  show x ^^^ b ^^^ b = x
  rw [Nat.xor_assoc, Nat.xor_self, Nat.xor_zero]
theorem cB_eight (x b : Nat) (h : b < 256) : cB x b 8 = tN (x ^^^ b) 8 := by
  unfold cB
  rw [show b / 2 ^ 8 = 0 by omega, Nat.xor_zero]
theorem cB_lt {x b : Nat} (hx : x < 4294967296) (hb : b < 256) (q : Nat) : cB x b q < 4294967296 :=
  xor_lt32 (tN_lt (xor_lt32 hx (by omega)) q) (Nat.lt_of_le_of_lt (Nat.div_le_self _ _) (by omega))
theorem cB_succ (x b q : Nat) : cB x b (q + 1) = if (cB x b q % 2 ^^^ b / 2 ^ q % 2) = 1 then (cB x b q / 2) ^^^ 2197175160 else cB x b q / 2 := by
  have hp : b / 2 ^ (q + 1) = b / 2 ^ q / 2 := by rw [Nat.pow_succ, Nat.div_div_eq_div_mul]
  have hm : (cB x b q % 2 ^^^ b / 2 ^ q % 2) = tN (x ^^^ b) q % 2 := by
    have : (cB x b q ^^^ b / 2 ^ q) = tN (x ^^^ b) q := by unfold cB; rw [Nat.xor_assoc, Nat.xor_self, Nat.xor_zero]
    have e2 := Nat.xor_mod_two_pow (a := cB x b q) (b := b / 2 ^ q) (n := 1)
    rw [Nat.pow_one] at e2
    rw [← this, e2]
  have hd : cB x b q / 2 = tN (x ^^^ b) q / 2 ^^^ b / 2 ^ q / 2 := by unfold cB; exact Nat.xor_div_two
  rw [hm, hd]
  show tB (tN (x ^^^ b) q) ^^^ _ = _
  unfold tB
  rw [hp]
  by_cases h : tN (x ^^^ b) q % 2 = 1
  · rw [if_pos h, if_pos h, Nat.xor_assoc, Nat.xor_comm 2197175160, ← Nat.xor_assoc]
  · rw [if_neg h, if_neg h]
theorem u32_one (c : Nat) (h : c < 4294967296) : bits .and .u32 (c : Int) 1 = ((c % 2 : Nat) : Int) := by
  have := u32_and_nat c 1 h (by decide)
  rw [Nat.and_one_is_mod] at this
  exact this
set_option maxRecDepth 10000 in
set_option maxHeartbeats 4000000 in
theorem refSum_any (l : List UInt8) (hll : l.length ≤ 100000000000000) (w : World) : Calls Tryz.prog 100 #[.string ⟨l.toArray⟩] w fun e w' => e = .returned (.int .u32 (sumL l)) ∧ w' = w := by
  refine opq fun R HR => ?_
  have hbs := bytes_size l
  have hSL : sumL l = bits .xor .u32 ((rg 4294967295 l : Nat) : Int) 4294967295 := by
    rw [sumL_nat]
    exact (u32_xor_nat _ 4294967295 (rg_lt (by decide) l) (by decide)).symm
  rw [hSL] at HR
  clear hSL
  go_enter Tryz.func100, Tryz.ntmps100
  go_wp2_with fail
  go_loopw [3, 4, 5, 6] (fun v i _ _ wr => ∃ j : Nat, j ≤ l.length ∧ i = .int .i64 (j : Int) ∧ v = .int .u32 ((rg 4294967295 (l.take j) : Nat) : Int) ∧ wr = w) (fun _ i _ _ _ => l.length - (intOf i).toNat)
  case atStart => exact ⟨0, by omega, rfl, rfl, rfl⟩
  case round =>
    obtain ⟨j, hj, rfl, rfl, rfl⟩ := hrel
    by_cases hlt : j < l.length
    · obtain ⟨b, hb⟩ : ∃ b, l[j]? = some b := ⟨_, List.getElem?_eq_getElem hlt⟩
      have kx := fun W => idx_any l j b hb (j : Int) rfl W
      have hb8 := b.toNat_lt
      have hrl := rg_lt (show 4294967295 < 4294967296 by decide) (l.take j)
      have E := Lib.hid (show rg 4294967295 (l.take (j + 1)) = tN (rg 4294967295 (l.take j) ^^^ b.toNat) 8 by
        obtain ⟨hk, rfl⟩ := List.getElem?_eq_some_iff.1 hb
        rw [List.take_succ_eq_append_getElem hk, rg_append]; rfl)
      clear hb
      generalize rg 4294967295 (l.take j) = x at *
      generalize b.toNat = bn at *
      have h0 := cB_zero x bn
      go_wp2_with fail
      go_loopw [3, 5, 6] (fun v q _ wz => ∃ q' : Nat, q' ≤ 8 ∧ q = .int .i64 (q' : Int) ∧ v = .int .u32 ((cB x bn q' : Nat) : Int) ∧ wz = wr) (fun _ q _ _ => 8 - (intOf q).toNat)
      case atStart => exact ⟨0, by omega, rfl, by rw [cB_zero], rfl⟩
      case round =>
        obtain ⟨q, hq, rfl, rfl, rfl⟩ := hrel
        clear h0
        by_cases hq8 : q < 8
        · have hcl := cB_lt hrl hb8 q
          have HC := Lib.hid (cB_succ x bn q)
          have hq' : q = 0 ∨ q = 1 ∨ q = 2 ∨ q = 3 ∨ q = 4 ∨ q = 5 ∨ q = 6 ∨ q = 7 := by omega
          clear hq hq8
          rcases hq' with rfl | rfl | rfl | rfl | rfl | rfl | rfl | rfl
          · have hsh : (bn / 2 ^ 0 : Nat) = bn := by rw [Nat.pow_zero, Nat.div_one]
            rw [hsh] at HC
            have hbit : bits .xor .u32 (bits .and .u32 ((cB x bn 0 : Nat) : Int) 1) (bits .and .u32 ((bn : Int)) 1) = (((cB x bn 0 % 2 ^^^ bn % 2 : Nat)) : Int) := by
              rw [u32_one _ hcl, show ((bn : Int)) = ((bn : Nat) : Int) by rfl, u32_one _ (by omega)]
              exact u32_xor_nat _ _ (by omega) (by omega)
            generalize cB x bn 0 = c at *
            clear hsh
            by_cases h1 : (c % 2 ^^^ bn % 2) = 1
            · rw [if_pos h1] at HC
              have hb1 : (bits .xor .u32 (bits .and .u32 (c : Int) 1) (bits .and .u32 ((bn : Int)) 1) == 1) = true := by rw [hbit, h1]; rfl
              have hx2 : ((c / 2 ^^^ 2197175160 : Nat) : Int) = bits .xor .u32 ((c : Int) / 2) 2197175160 := by
                have := u32_xor_nat (c / 2) 2197175160 (by omega) (by decide)
                rw [← this]; rfl
              have HX2 := Lib.hid hx2
              clear hbit h1 hx2
              go_wp2_with fail
              go_roundw
              case rel => exact ⟨0 + 1, by omega, by first | rfl | go_num, by rw [HC.out, HX2.out], by first | rfl | trivial⟩
              case measure => simp [intOf]
            · rw [if_neg h1] at HC
              have hb1 : (bits .xor .u32 (bits .and .u32 (c : Int) 1) (bits .and .u32 ((bn : Int)) 1) == 1) = false := by rw [hbit, beq_eq_false_iff_ne]; omega
              clear hbit h1
              go_wp2_with fail
              go_roundw
              case rel => exact ⟨0 + 1, by omega, by first | rfl | go_num, by rw [HC.out]; rfl, by first | rfl | trivial⟩
              case measure => simp [intOf]
          · have hsh : (bn / 2 ^ 1 : Nat) = bn / 2 := by rfl
            rw [hsh] at HC
            have hbit : bits .xor .u32 (bits .and .u32 ((cB x bn 1 : Nat) : Int) 1) (bits .and .u32 ((bn : Int) / 2) 1) = (((cB x bn 1 % 2 ^^^ bn / 2 % 2 : Nat)) : Int) := by
              rw [u32_one _ hcl, show ((bn : Int) / 2) = ((bn / 2 : Nat) : Int) by rfl, u32_one _ (by omega)]
              exact u32_xor_nat _ _ (by omega) (by omega)
            generalize cB x bn 1 = c at *
            clear hsh
            by_cases h1 : (c % 2 ^^^ bn / 2 % 2) = 1
            · rw [if_pos h1] at HC
              have hb1 : (bits .xor .u32 (bits .and .u32 (c : Int) 1) (bits .and .u32 ((bn : Int) / 2) 1) == 1) = true := by rw [hbit, h1]; rfl
              have hx2 : ((c / 2 ^^^ 2197175160 : Nat) : Int) = bits .xor .u32 ((c : Int) / 2) 2197175160 := by
                have := u32_xor_nat (c / 2) 2197175160 (by omega) (by decide)
                rw [← this]; rfl
              have HX2 := Lib.hid hx2
              clear hbit h1 hx2
              go_wp2_with fail
              go_roundw
              case rel => exact ⟨1 + 1, by omega, by first | rfl | go_num, by rw [HC.out, HX2.out], by first | rfl | trivial⟩
              case measure => simp [intOf]
            · rw [if_neg h1] at HC
              have hb1 : (bits .xor .u32 (bits .and .u32 (c : Int) 1) (bits .and .u32 ((bn : Int) / 2) 1) == 1) = false := by rw [hbit, beq_eq_false_iff_ne]; omega
              clear hbit h1
              go_wp2_with fail
              go_roundw
              case rel => exact ⟨1 + 1, by omega, by first | rfl | go_num, by rw [HC.out]; rfl, by first | rfl | trivial⟩
              case measure => simp [intOf]
          · have hsh : (bn / 2 ^ 2 : Nat) = bn / 4 := by rfl
            rw [hsh] at HC
            have hbit : bits .xor .u32 (bits .and .u32 ((cB x bn 2 : Nat) : Int) 1) (bits .and .u32 ((bn : Int) / 4) 1) = (((cB x bn 2 % 2 ^^^ bn / 4 % 2 : Nat)) : Int) := by
              rw [u32_one _ hcl, show ((bn : Int) / 4) = ((bn / 4 : Nat) : Int) by rfl, u32_one _ (by omega)]
              exact u32_xor_nat _ _ (by omega) (by omega)
            generalize cB x bn 2 = c at *
            clear hsh
            by_cases h1 : (c % 2 ^^^ bn / 4 % 2) = 1
            · rw [if_pos h1] at HC
              have hb1 : (bits .xor .u32 (bits .and .u32 (c : Int) 1) (bits .and .u32 ((bn : Int) / 4) 1) == 1) = true := by rw [hbit, h1]; rfl
              have hx2 : ((c / 2 ^^^ 2197175160 : Nat) : Int) = bits .xor .u32 ((c : Int) / 2) 2197175160 := by
                have := u32_xor_nat (c / 2) 2197175160 (by omega) (by decide)
                rw [← this]; rfl
              have HX2 := Lib.hid hx2
              clear hbit h1 hx2
              go_wp2_with fail
              go_roundw
              case rel => exact ⟨2 + 1, by omega, by first | rfl | go_num, by rw [HC.out, HX2.out], by first | rfl | trivial⟩
              case measure => simp [intOf]
            · rw [if_neg h1] at HC
              have hb1 : (bits .xor .u32 (bits .and .u32 (c : Int) 1) (bits .and .u32 ((bn : Int) / 4) 1) == 1) = false := by rw [hbit, beq_eq_false_iff_ne]; omega
              clear hbit h1
              go_wp2_with fail
              go_roundw
              case rel => exact ⟨2 + 1, by omega, by first | rfl | go_num, by rw [HC.out]; rfl, by first | rfl | trivial⟩
              case measure => simp [intOf]
          · have hsh : (bn / 2 ^ 3 : Nat) = bn / 8 := by rfl
            rw [hsh] at HC
            have hbit : bits .xor .u32 (bits .and .u32 ((cB x bn 3 : Nat) : Int) 1) (bits .and .u32 ((bn : Int) / 8) 1) = (((cB x bn 3 % 2 ^^^ bn / 8 % 2 : Nat)) : Int) := by
              rw [u32_one _ hcl, show ((bn : Int) / 8) = ((bn / 8 : Nat) : Int) by rfl, u32_one _ (by omega)]
              exact u32_xor_nat _ _ (by omega) (by omega)
            generalize cB x bn 3 = c at *
            clear hsh
            by_cases h1 : (c % 2 ^^^ bn / 8 % 2) = 1
            · rw [if_pos h1] at HC
              have hb1 : (bits .xor .u32 (bits .and .u32 (c : Int) 1) (bits .and .u32 ((bn : Int) / 8) 1) == 1) = true := by rw [hbit, h1]; rfl
              have hx2 : ((c / 2 ^^^ 2197175160 : Nat) : Int) = bits .xor .u32 ((c : Int) / 2) 2197175160 := by
                have := u32_xor_nat (c / 2) 2197175160 (by omega) (by decide)
                rw [← this]; rfl
              have HX2 := Lib.hid hx2
              clear hbit h1 hx2
              go_wp2_with fail
              go_roundw
              case rel => exact ⟨3 + 1, by omega, by first | rfl | go_num, by rw [HC.out, HX2.out], by first | rfl | trivial⟩
              case measure => simp [intOf]
            · rw [if_neg h1] at HC
              have hb1 : (bits .xor .u32 (bits .and .u32 (c : Int) 1) (bits .and .u32 ((bn : Int) / 8) 1) == 1) = false := by rw [hbit, beq_eq_false_iff_ne]; omega
              clear hbit h1
              go_wp2_with fail
              go_roundw
              case rel => exact ⟨3 + 1, by omega, by first | rfl | go_num, by rw [HC.out]; rfl, by first | rfl | trivial⟩
              case measure => simp [intOf]
          · have hsh : (bn / 2 ^ 4 : Nat) = bn / 16 := by rfl
            rw [hsh] at HC
            have hbit : bits .xor .u32 (bits .and .u32 ((cB x bn 4 : Nat) : Int) 1) (bits .and .u32 ((bn : Int) / 16) 1) = (((cB x bn 4 % 2 ^^^ bn / 16 % 2 : Nat)) : Int) := by
              rw [u32_one _ hcl, show ((bn : Int) / 16) = ((bn / 16 : Nat) : Int) by rfl, u32_one _ (by omega)]
              exact u32_xor_nat _ _ (by omega) (by omega)
            generalize cB x bn 4 = c at *
            clear hsh
            by_cases h1 : (c % 2 ^^^ bn / 16 % 2) = 1
            · rw [if_pos h1] at HC
              have hb1 : (bits .xor .u32 (bits .and .u32 (c : Int) 1) (bits .and .u32 ((bn : Int) / 16) 1) == 1) = true := by rw [hbit, h1]; rfl
              have hx2 : ((c / 2 ^^^ 2197175160 : Nat) : Int) = bits .xor .u32 ((c : Int) / 2) 2197175160 := by
                have := u32_xor_nat (c / 2) 2197175160 (by omega) (by decide)
                rw [← this]; rfl
              have HX2 := Lib.hid hx2
              clear hbit h1 hx2
              go_wp2_with fail
              go_roundw
              case rel => exact ⟨4 + 1, by omega, by first | rfl | go_num, by rw [HC.out, HX2.out], by first | rfl | trivial⟩
              case measure => simp [intOf]
            · rw [if_neg h1] at HC
              have hb1 : (bits .xor .u32 (bits .and .u32 (c : Int) 1) (bits .and .u32 ((bn : Int) / 16) 1) == 1) = false := by rw [hbit, beq_eq_false_iff_ne]; omega
              clear hbit h1
              go_wp2_with fail
              go_roundw
              case rel => exact ⟨4 + 1, by omega, by first | rfl | go_num, by rw [HC.out]; rfl, by first | rfl | trivial⟩
              case measure => simp [intOf]
          · have hsh : (bn / 2 ^ 5 : Nat) = bn / 32 := by rfl
            rw [hsh] at HC
            have hbit : bits .xor .u32 (bits .and .u32 ((cB x bn 5 : Nat) : Int) 1) (bits .and .u32 ((bn : Int) / 32) 1) = (((cB x bn 5 % 2 ^^^ bn / 32 % 2 : Nat)) : Int) := by
              rw [u32_one _ hcl, show ((bn : Int) / 32) = ((bn / 32 : Nat) : Int) by rfl, u32_one _ (by omega)]
              exact u32_xor_nat _ _ (by omega) (by omega)
            generalize cB x bn 5 = c at *
            clear hsh
            by_cases h1 : (c % 2 ^^^ bn / 32 % 2) = 1
            · rw [if_pos h1] at HC
              have hb1 : (bits .xor .u32 (bits .and .u32 (c : Int) 1) (bits .and .u32 ((bn : Int) / 32) 1) == 1) = true := by rw [hbit, h1]; rfl
              have hx2 : ((c / 2 ^^^ 2197175160 : Nat) : Int) = bits .xor .u32 ((c : Int) / 2) 2197175160 := by
                have := u32_xor_nat (c / 2) 2197175160 (by omega) (by decide)
                rw [← this]; rfl
              have HX2 := Lib.hid hx2
              clear hbit h1 hx2
              go_wp2_with fail
              go_roundw
              case rel => exact ⟨5 + 1, by omega, by first | rfl | go_num, by rw [HC.out, HX2.out], by first | rfl | trivial⟩
              case measure => simp [intOf]
            · rw [if_neg h1] at HC
              have hb1 : (bits .xor .u32 (bits .and .u32 (c : Int) 1) (bits .and .u32 ((bn : Int) / 32) 1) == 1) = false := by rw [hbit, beq_eq_false_iff_ne]; omega
              clear hbit h1
              go_wp2_with fail
              go_roundw
              case rel => exact ⟨5 + 1, by omega, by first | rfl | go_num, by rw [HC.out]; rfl, by first | rfl | trivial⟩
              case measure => simp [intOf]
          · have hsh : (bn / 2 ^ 6 : Nat) = bn / 64 := by rfl
            rw [hsh] at HC
            have hbit : bits .xor .u32 (bits .and .u32 ((cB x bn 6 : Nat) : Int) 1) (bits .and .u32 ((bn : Int) / 64) 1) = (((cB x bn 6 % 2 ^^^ bn / 64 % 2 : Nat)) : Int) := by
              rw [u32_one _ hcl, show ((bn : Int) / 64) = ((bn / 64 : Nat) : Int) by rfl, u32_one _ (by omega)]
              exact u32_xor_nat _ _ (by omega) (by omega)
            generalize cB x bn 6 = c at *
            clear hsh
            by_cases h1 : (c % 2 ^^^ bn / 64 % 2) = 1
            · rw [if_pos h1] at HC
              have hb1 : (bits .xor .u32 (bits .and .u32 (c : Int) 1) (bits .and .u32 ((bn : Int) / 64) 1) == 1) = true := by rw [hbit, h1]; rfl
              have hx2 : ((c / 2 ^^^ 2197175160 : Nat) : Int) = bits .xor .u32 ((c : Int) / 2) 2197175160 := by
                have := u32_xor_nat (c / 2) 2197175160 (by omega) (by decide)
                rw [← this]; rfl
              have HX2 := Lib.hid hx2
              clear hbit h1 hx2
              go_wp2_with fail
              go_roundw
              case rel => exact ⟨6 + 1, by omega, by first | rfl | go_num, by rw [HC.out, HX2.out], by first | rfl | trivial⟩
              case measure => simp [intOf]
            · rw [if_neg h1] at HC
              have hb1 : (bits .xor .u32 (bits .and .u32 (c : Int) 1) (bits .and .u32 ((bn : Int) / 64) 1) == 1) = false := by rw [hbit, beq_eq_false_iff_ne]; omega
              clear hbit h1
              go_wp2_with fail
              go_roundw
              case rel => exact ⟨6 + 1, by omega, by first | rfl | go_num, by rw [HC.out]; rfl, by first | rfl | trivial⟩
              case measure => simp [intOf]
          · have hsh : (bn / 2 ^ 7 : Nat) = bn / 128 := by rfl
            rw [hsh] at HC
            have hbit : bits .xor .u32 (bits .and .u32 ((cB x bn 7 : Nat) : Int) 1) (bits .and .u32 ((bn : Int) / 128) 1) = (((cB x bn 7 % 2 ^^^ bn / 128 % 2 : Nat)) : Int) := by
              rw [u32_one _ hcl, show ((bn : Int) / 128) = ((bn / 128 : Nat) : Int) by rfl, u32_one _ (by omega)]
              exact u32_xor_nat _ _ (by omega) (by omega)
            generalize cB x bn 7 = c at *
            clear hsh
            by_cases h1 : (c % 2 ^^^ bn / 128 % 2) = 1
            · rw [if_pos h1] at HC
              have hb1 : (bits .xor .u32 (bits .and .u32 (c : Int) 1) (bits .and .u32 ((bn : Int) / 128) 1) == 1) = true := by rw [hbit, h1]; rfl
              have hx2 : ((c / 2 ^^^ 2197175160 : Nat) : Int) = bits .xor .u32 ((c : Int) / 2) 2197175160 := by
                have := u32_xor_nat (c / 2) 2197175160 (by omega) (by decide)
                rw [← this]; rfl
              have HX2 := Lib.hid hx2
              clear hbit h1 hx2
              go_wp2_with fail
              go_roundw
              case rel => exact ⟨7 + 1, by omega, by first | rfl | go_num, by rw [HC.out, HX2.out], by first | rfl | trivial⟩
              case measure => simp [intOf]
            · rw [if_neg h1] at HC
              have hb1 : (bits .xor .u32 (bits .and .u32 (c : Int) 1) (bits .and .u32 ((bn : Int) / 128) 1) == 1) = false := by rw [hbit, beq_eq_false_iff_ne]; omega
              clear hbit h1
              go_wp2_with fail
              go_roundw
              case rel => exact ⟨7 + 1, by omega, by first | rfl | go_num, by rw [HC.out]; rfl, by first | rfl | trivial⟩
              case measure => simp [intOf]
        · obtain rfl : q = 8 := by omega
          rw [cB_eight x bn hb8, ← E.out]
          go_wp2_with fail
          go_roundw
          case rel => exact ⟨j + 1, by omega, by go_num, rfl, by first | rfl | trivial⟩
          case measure => simp [intOf]; omega
    · obtain rfl : j = l.length := by omega
      rw [List.take_length]
      go_wp2
      exact HR.out _ _ ⟨rfl, rfl⟩
/-- The document's Seal and Open are castle's. -/
theorem refSeal_any (l : List UInt8) (hll : l.length ≤ 100000000000000) (w : World) : Calls Tryz.prog 89 #[.string ⟨l.toArray⟩] w fun e w' => e = .returned (.string ⟨(sealL l).toArray⟩) ∧ Same w w' := by
  refine opq fun R HR => ?_
  have hu := sumL_u l
  have HS := Lib.hid (refSum_any l hll w)
  have HB := Lib.hid (fun w => refB_any (sumL l) 4 ⟨hu.1, by omega⟩ 4 (by decide) w)
  have hw : IntKind.u64.wrap (sumL l) = sumL l := wraps_u64 _ hu.1 (by omega)
  unfold sealL at HR
  rw [← str_app] at HR
  have hbl := bytes_size l
  have hbb : (⟨(leB (sumL l) 4).toArray⟩ : ByteArray).size = 4 := by rw [bytes_size, leB_len]
  generalize sumL l = s at *
  generalize leB s 4 = b at *
  go_enter Tryz.func89, Tryz.ntmps89
  go_wp2_with fail
  refine HS.out.mono ?_
  rintro e w1 ⟨rfl, rfl⟩
  clear HS
  go_wp2_with fail
  refine (HB.out _).mono ?_
  rintro e w2 ⟨rfl, M2⟩
  have K2 := Lib.hid M2
  clear M2 HB
  go_wp2
  exact HR.out _ _ ⟨rfl, K2.out⟩
end Go.Proofs.YtjkndfenniongaaGreatDoor
