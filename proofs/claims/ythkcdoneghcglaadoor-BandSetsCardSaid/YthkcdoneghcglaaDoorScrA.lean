import Derived.Lib.ItoaNum
import Derived.Lib.AtoiAllCases
import Derived.Lib.SplitLaws
import Derived.Lib.Join
set_option linter.unusedSimpArgs false
set_option linter.unusedVariables false
/- Plain laws of layer 41: numbers, hexadecimal digits, lines. No program in sight. -/
namespace Go.Proofs.YthkcdoneghcglaaDoor
open Go
def I64 (n : Int) : Prop := -9223372036854775808 ≤ n ∧ n ≤ 9223372036854775807
def isDigit (c : UInt8) : Bool := decide (48 ≤ c.toNat) && decide (c.toNat ≤ 57)
def digitsOnly (d : List UInt8) : Bool := d.all isDigit
theorem digit48 (k : Nat) (h : k < 10) : (UInt8.ofNat (48 + k)).toNat = 48 + k := by rw [UInt8.toNat_ofNat', Nat.mod_eq_of_lt (by omega)]
/-- The value of digits. -/
def valD (u : Int) : List UInt8 → Int
  | [] => u
  | c :: r => valD (u * 10 + ((c.toNat : Int) - 48)) r
theorem valD_snoc (l : List UInt8) (c : UInt8) : ∀ u, valD u (l ++ [c]) = valD u l * 10 + ((c.toNat : Int) - 48) := by
  induction l with
  | nil => intro u; rfl
  | cons d r ih => intro u; exact ih _
theorem dec_digits : ∀ u, digitsOnly (Lib.decDigits u) = true := by
  intro u
  induction u using Nat.strongRecOn with
  | _ u ih =>
    rw [Lib.decDigits]
    split
    · rename_i h
      simp only [digitsOnly, List.all_cons, List.all_nil, isDigit, digit48 u h]; simp; omega
    · rename_i h
      have h1 := ih (u / 10) (by omega)
      unfold digitsOnly at h1 ⊢
      rw [List.all_append, h1]
      simp only [List.all_cons, List.all_nil, isDigit, digit48 (u % 10) (by omega)]; simp; omega
theorem dec_val : ∀ u, valD 0 (Lib.decDigits u) = (u : Int) := by
  intro u
  induction u using Nat.strongRecOn with
  | _ u ih =>
    rw [Lib.decDigits]
    split
    · rename_i h
      simp only [valD, digit48 u h]; omega
    · rename_i h
      rw [valD_snoc, ih (u / 10) (by omega), digit48 (u % 10) (by omega)]; omega
theorem dec_len : ∀ (k u : Nat), u < 10 ^ (k + 1) → (Lib.decDigits u).length ≤ k + 1 := by
  intro k
  induction k with
  | zero =>
    intro u h
    rw [Lib.decDigits]
    rw [dif_pos (by simpa using h)]; simp
  | succ k ih =>
    intro u h
    rw [Lib.decDigits]
    split
    · simp
    · have := ih (u / 10) (by rw [Nat.pow_succ] at h; omega)
      simp; omega
theorem dec_ne (u : Nat) : Lib.decDigits u ≠ [] := by rw [Lib.decDigits]; split <;> simp
theorem itoa_neg (n : Int) (h : n < 0) : Lib.itoa n = 45 :: Lib.decDigits n.natAbs := if_pos h
theorem itoa_pos (n : Int) (h : ¬ n < 0) : Lib.itoa n = Lib.decDigits n.toNat := if_neg h
theorem itoa_ne (n : Int) : Lib.itoa n ≠ [] := by
  by_cases h : n < 0
  · rw [itoa_neg n h]; simp
  · rw [itoa_pos n h]; exact dec_ne _
theorem digits_mem {d : List UInt8} (h : digitsOnly d = true) : ∀ c ∈ d, 48 ≤ c.toNat ∧ c.toNat ≤ 57 := by
  intro c hc
  unfold digitsOnly at h
  have := List.all_eq_true.1 h c hc
  unfold isDigit at this
  simpa using this
theorem itoa_mem (n : Int) : ∀ c ∈ Lib.itoa n, c.toNat = 45 ∨ 48 ≤ c.toNat ∧ c.toNat ≤ 57 := by
  intro c hc
  by_cases h : n < 0
  · rw [itoa_neg n h, List.mem_cons] at hc
    rcases hc with rfl | hc
    · exact .inl rfl
    · exact .inr (digits_mem (dec_digits _) c hc)
  · rw [itoa_pos n h] at hc; exact .inr (digits_mem (dec_digits _) c hc)
theorem parse_app (a b : List UInt8) : ∀ acc, Lib.parseUint10 acc (a ++ b) = match Lib.parseUint10 acc a with | .ok v => Lib.parseUint10 v b | e => e := by
  induction a with
  | nil => intro acc; rfl
  | cons c r ih =>
    intro acc
    simp only [List.cons_append, Lib.parseUint10]
    split
    · split
      · rfl
      · split
        · rfl
        · exact ih _
    · rfl
theorem dec_parse : ∀ u, u < 18446744073709551616 → Lib.parseUint10 0 (Lib.decDigits u) = .ok u := by
  intro u
  induction u using Nat.strongRecOn with
  | _ u ih =>
    intro hu
    rw [Lib.decDigits]
    split
    · rename_i h
      simp only [Lib.parseUint10, digit48 u h]
      rw [if_pos ⟨by omega, by omega⟩, if_neg (by omega), if_neg (by omega)]
      congr 1; omega
    · rename_i h
      rw [parse_app, ih (u / 10) (by omega) (by omega)]
      simp only [Lib.parseUint10, digit48 (u % 10) (by omega)]
      rw [if_pos ⟨by omega, by omega⟩, if_neg (by omega), if_neg (by omega)]
      congr 1; omega
theorem dec_head (u : Nat) : ∃ c r, Lib.decDigits u = c :: r ∧ 48 ≤ c.toNat ∧ c.toNat ≤ 57 := by
  obtain ⟨c, r, h⟩ := List.exists_cons_of_ne_nil (dec_ne u)
  have hd := dec_digits u
  rw [h] at hd
  simp only [digitsOnly, List.all_cons, isDigit, Bool.and_eq_true, decide_eq_true_eq] at hd
  exact ⟨c, r, h, hd.1.1, hd.1.2⟩
theorem mag_dec (u : Nat) (hu : u < 18446744073709551616) : Lib.parseMag (Lib.decDigits u) = .ok u := by
  unfold Lib.parseMag; rw [if_neg (dec_ne u), dec_parse u hu]
theorem atoi_itoa (n : Int) (hn : I64 n) : Lib.atoiAll (Lib.itoa n) = .ok n := by
  unfold I64 at hn
  by_cases h : n < 0
  · rw [itoa_neg n h, Lib.atoiAll_minus, mag_dec _ (by omega)]
    unfold Lib.signed
    simp only
    rw [if_neg (by omega)]
    congr 1; omega
  · rw [itoa_pos n h]
    obtain ⟨c, r, e, h1, h2⟩ := dec_head n.toNat
    have hm := mag_dec n.toNat (by omega)
    rw [e] at hm ⊢
    rw [Lib.atoiAll_plain c r (by omega) (by omega), hm]
    unfold Lib.signless
    simp only
    rw [if_neg (by omega)]
    congr 1; omega
/-- The number that a text tells, as the program reads it. -/
def pNum (p : List UInt8) : Option Int :=
  match Lib.atoiAll p with
  | .ok n => if Lib.itoa n = p then some n else none
  | _ => none
/-- The document's number: at most four digits. -/
def rNum (p : List UInt8) : Int × Bool :=
  if 4 < p.length then (0, false) else if digitsOnly p = true then (valD 0 p, decide (Lib.itoa (valD 0 p) = p)) else (0, false)
theorem pNum_itoa (n : Int) (hn : I64 n) : pNum (Lib.itoa n) = some n := by
  unfold pNum; rw [atoi_itoa n hn]; simp
theorem pNum_some {p : List UInt8} {n : Int} (h : pNum p = some n) : Lib.itoa n = p ∧ I64 n := by
  unfold pNum at h
  split at h
  · rename_i m hm
    split at h
    · rename_i e; cases h; exact ⟨e, Lib.atoiAll_bounds hm⟩
    · cases h
  · cases h
theorem valD_bd (p : List UInt8) (hd : digitsOnly p = true) : ∀ u : Int, 0 ≤ u → 0 ≤ valD u p ∧ valD u p < (u + 1) * 10 ^ p.length := by
  induction p with
  | nil => intro u hu; simp [valD]; omega
  | cons c r ih =>
    intro u hu
    have hm := digits_mem hd c (by simp)
    have hr : digitsOnly r = true := by unfold digitsOnly at hd ⊢; simp at hd ⊢; exact hd.2
    have := ih hr (u * 10 + ((c.toNat : Int) - 48)) (by omega)
    refine ⟨this.1, Int.lt_of_lt_of_le this.2 ?_⟩
    rw [List.length_cons, Int.pow_succ, Int.mul_comm (10 ^ r.length) 10, ← Int.mul_assoc]
    refine Int.mul_le_mul_of_nonneg_right (by omega) ?_
    exact Int.pow_nonneg (by decide)
theorem rNum_true {p : List UInt8} {n : Int} (h : rNum p = (n, true)) : Lib.itoa n = p ∧ 0 ≤ n ∧ n ≤ 9999 := by
  unfold rNum at h
  split at h
  · cases h
  · rename_i h4
    split at h
    · rename_i hd
      have hv := valD_bd p hd 0 (by omega)
      simp only [Prod.mk.injEq, decide_eq_true_eq] at h
      obtain ⟨rfl, h2⟩ := h
      refine ⟨h2, hv.1, ?_⟩
      have : (10 : Int) ^ p.length ≤ 10 ^ 4 := by
        have h5 : p.length = 0 ∨ p.length = 1 ∨ p.length = 2 ∨ p.length = 3 ∨ p.length = 4 := by omega
        rcases h5 with e | e | e | e | e <;> rw [e] <;> decide
      omega
    · cases h
theorem rNum_itoa (n : Int) (h0 : 0 ≤ n) (h9 : n ≤ 9999) : rNum (Lib.itoa n) = (n, true) := by
  have e : Lib.itoa n = Lib.decDigits n.toNat := itoa_pos n (by omega)
  have hl : (Lib.itoa n).length ≤ 4 := by rw [e]; exact dec_len 3 _ (by omega)
  have hv : valD 0 (Lib.itoa n) = n := by rw [e, dec_val]; omega
  unfold rNum
  rw [if_neg (by omega), if_pos (by rw [e]; exact dec_digits _), hv]; simp
/-- The two read alike: what the program reads beside is out of bounds. -/
theorem rNum_of_pNum {p : List UInt8} {n : Int} (h : pNum p = some n) (h0 : 0 ≤ n) (h9 : n ≤ 9999) : rNum p = (n, true) := by
  have := (pNum_some h).1; rw [← this]; exact rNum_itoa n h0 h9
theorem pNum_of_rNum {p : List UInt8} {n : Int} (h : rNum p = (n, true)) : pNum p = some n ∧ 0 ≤ n ∧ n ≤ 9999 := by
  obtain ⟨h1, h2, h3⟩ := rNum_true h
  rw [← h1]; exact ⟨pNum_itoa n (by unfold I64; omega), h2, h3⟩
/-! Hexadecimal digits. -/
def isHex (c : UInt8) : Bool := (decide (48 ≤ c.toNat) && decide (c.toNat ≤ 57)) || (decide (97 ≤ c.toNat) && decide (c.toNat ≤ 102))
/-- A digit's number. -/
def hexD (c : UInt8) : Nat := if c.toNat ≤ 57 then c.toNat - 48 else c.toNat - 87
def hexC (d : Nat) : UInt8 := UInt8.ofNat (if d < 10 then 48 + d else 87 + d)
theorem hexC_nat (d : Nat) (h : d < 16) : (hexC d).toNat = if d < 10 then 48 + d else 87 + d := by
  unfold hexC; split <;> rw [UInt8.toNat_ofNat', Nat.mod_eq_of_lt (by omega)]
theorem hexD_C (d : Nat) (h : d < 16) : hexD (hexC d) = d := by
  unfold hexD; rw [hexC_nat d h]; split <;> split <;> omega
theorem isHex_C (d : Nat) (h : d < 16) : isHex (hexC d) = true := by
  unfold isHex; rw [hexC_nat d h]; split <;> simp <;> omega
theorem isHex_iff (c : UInt8) : isHex c = true ↔ (48 ≤ c.toNat ∧ c.toNat ≤ 57) ∨ (97 ≤ c.toNat ∧ c.toNat ≤ 102) := by unfold isHex; simp
theorem hexD_lt (c : UInt8) (h : isHex c = true) : hexD c < 16 := by
  rw [isHex_iff] at h; unfold hexD; split <;> omega
theorem hexC_D (c : UInt8) (h : isHex c = true) : hexC (hexD c) = c := by
  have hl := hexD_lt c h
  apply UInt8.toNat.inj
  rw [hexC_nat _ hl]
  rw [isHex_iff] at h
  unfold hexD; split <;> split <;> omega
/-- The value of hexadecimal digits. -/
def hexF (u : Nat) : List UInt8 → Nat
  | [] => u
  | c :: r => hexF (u * 16 + hexD c) r
theorem hexF_snoc (l : List UInt8) (c : UInt8) : ∀ u, hexF u (l ++ [c]) = hexF u l * 16 + hexD c := by
  induction l with
  | nil => intro u; rfl
  | cons d r ih => intro u; exact ih _
def hexV (p : List UInt8) : Option Nat := if p.length = 8 ∧ p.all isHex = true then some (hexF 0 p) else none
/-- A sum's eight digits. -/
def hexL (h : Nat) : List UInt8 := [hexC (h / 268435456 % 16), hexC (h / 16777216 % 16), hexC (h / 1048576 % 16), hexC (h / 65536 % 16), hexC (h / 4096 % 16), hexC (h / 256 % 16), hexC (h / 16 % 16), hexC (h % 16)]
theorem hexV_L (h : Nat) (hh : h < 4294967296) : hexV (hexL h) = some h := by
  unfold hexV hexL
  rw [if_pos ⟨rfl, by simp only [List.all_cons, List.all_nil, isHex_C _ (Nat.mod_lt _ (by decide)), Bool.and_self]⟩]
  simp only [hexF, hexD_C _ (Nat.mod_lt _ (by decide))]
  congr 1; omega
theorem hexL_V {p : List UInt8} {h : Nat} (e : hexV p = some h) : hexL h = p ∧ h < 4294967296 := by
  unfold hexV at e
  split at e
  · rename_i hc
    obtain ⟨h1, h2⟩ := hc
    match p, h1 with
    | [a, b, c, d, e1, f, g, i], _ =>
      simp only [List.all_cons, List.all_nil, Bool.and_true, Bool.and_eq_true] at h2
      obtain ⟨ha, hb, hc, hd, he, hf, hg, hi⟩ := h2
      have la := hexD_lt _ ha; have lb := hexD_lt _ hb; have lc := hexD_lt _ hc; have ld := hexD_lt _ hd
      have le := hexD_lt _ he; have lf := hexD_lt _ hf; have lg := hexD_lt _ hg; have li := hexD_lt _ hi
      simp only [hexF, Option.some.injEq] at e
      rw [← hexC_D _ ha, ← hexC_D _ hb, ← hexC_D _ hc, ← hexC_D _ hd, ← hexC_D _ he, ← hexC_D _ hf, ← hexC_D _ hg, ← hexC_D _ hi]
      generalize hexD a = a at *; generalize hexD b = b at *; generalize hexD c = c at *; generalize hexD d = d at *
      generalize hexD e1 = e1 at *; generalize hexD f = f at *; generalize hexD g = g at *; generalize hexD i = i at *
      subst e
      unfold hexL
      refine ⟨?_, by omega⟩
      have q0 : (((((((((0 * 16 + a) * 16 + b) * 16 + c) * 16 + d) * 16 + e1) * 16 + f) * 16 + g) * 16 + i)) / 268435456 % 16 = a := by omega
      have q1 : (((((((((0 * 16 + a) * 16 + b) * 16 + c) * 16 + d) * 16 + e1) * 16 + f) * 16 + g) * 16 + i)) / 16777216 % 16 = b := by omega
      have q2 : (((((((((0 * 16 + a) * 16 + b) * 16 + c) * 16 + d) * 16 + e1) * 16 + f) * 16 + g) * 16 + i)) / 1048576 % 16 = c := by omega
      have q3 : (((((((((0 * 16 + a) * 16 + b) * 16 + c) * 16 + d) * 16 + e1) * 16 + f) * 16 + g) * 16 + i)) / 65536 % 16 = d := by omega
      have q4 : (((((((((0 * 16 + a) * 16 + b) * 16 + c) * 16 + d) * 16 + e1) * 16 + f) * 16 + g) * 16 + i)) / 4096 % 16 = e1 := by omega
      have q5 : (((((((((0 * 16 + a) * 16 + b) * 16 + c) * 16 + d) * 16 + e1) * 16 + f) * 16 + g) * 16 + i)) / 256 % 16 = f := by omega
      have q6 : (((((((((0 * 16 + a) * 16 + b) * 16 + c) * 16 + d) * 16 + e1) * 16 + f) * 16 + g) * 16 + i)) / 16 % 16 = g := by omega
      have q7 : (((((((((0 * 16 + a) * 16 + b) * 16 + c) * 16 + d) * 16 + e1) * 16 + f) * 16 + g) * 16 + i)) % 16 = i := by omega
      rw [q0, q1, q2, q3, q4, q5, q6, q7]
  · cases e
theorem hexL_len (h : Nat) : (hexL h).length = 8 := rfl
theorem hexL_mem (h : Nat) : ∀ c ∈ hexL h, c.toNat ≠ 10 ∧ c.toNat ≠ 32 := by
  have key : ∀ d, d < 16 → (hexC d).toNat ≠ 10 ∧ (hexC d).toNat ≠ 32 := by
    intro d hd; rw [hexC_nat d hd]; split <;> omega
  intro c hc
  unfold hexL at hc
  simp only [List.mem_cons, List.not_mem_nil, or_false] at hc
  rcases hc with rfl | rfl | rfl | rfl | rfl | rfl | rfl | rfl <;> exact key _ (Nat.mod_lt _ (by decide))
/-- What stands between blanks. -/
def spl : List UInt8 → List (List UInt8)
  | [] => [[]]
  | c :: r => if c = 32 then [] :: spl r else match spl r with
    | [] => [[c]]
    | w :: ws => (c :: w) :: ws
theorem spl_ne : ∀ l, ∃ w ws, spl l = w :: ws
  | [] => ⟨_, _, rfl⟩
  | c :: r => by
    obtain ⟨w, ws, e⟩ := spl_ne r
    unfold spl
    by_cases h : c = 32
    · rw [if_pos h]; exact ⟨_, _, rfl⟩
    · rw [if_neg h, e]; exact ⟨_, _, rfl⟩
theorem spl_cons {c : UInt8} {r w : List UInt8} {ws : List (List UInt8)} (h : c ≠ 32) (e : spl r = w :: ws) : spl (c :: r) = (c :: w) :: ws := by
  rw [spl, if_neg h, e]
theorem index_hit (r : List UInt8) : Lib.index (32 :: r) [32] = ((0 : Nat) : Int) := by rw [Lib.index]; simp [List.isPrefixOf]
theorem index_next (c : UInt8) (r : List UInt8) (h : c ≠ 32) (j : Nat) (hj : Lib.index r [32] = j) : Lib.index (c :: r) [32] = ((j + 1 : Nat) : Int) := by
  have hp : ([32] : List UInt8).isPrefixOf (c :: r) = false := by simp [List.isPrefixOf, Ne.symm h]
  rw [Lib.index, hp, hj]
  have : ¬ ((j : Int) == -1) = true := fun e => by have := beq_iff_eq.1 e; omega
  simp only [Bool.false_eq_true, if_false, if_neg this]; omega
theorem split_spl : ∀ l, Lib.splitK [32] 0 (Lib.count l [32]) l = spl l
  | [] => by rw [Lib.count_one]; rfl
  | c :: r => by
    have ih := split_spl r
    by_cases h : c = 32
    · subst h
      rw [Lib.count_cons_eq, Nat.add_comm, Lib.splitK, index_hit]
      simp only [List.length_singleton]
      rw [if_neg (by decide)]
      show [] :: Lib.splitK [32] 0 (Lib.count r [32]) r = _
      rw [ih, spl, if_pos rfl]
    · rw [Lib.count_cons_ne c 32 r h]
      cases hk : Lib.count r [32] with
      | zero =>
        rw [hk] at ih
        rw [spl_cons h ih.symm]; rfl
      | succ k =>
        rw [hk] at ih
        have hm : Lib.index r [32] ≠ -1 := by intro e; rw [Lib.count_miss e] at hk; omega
        have hge := Lib.index_ge r [32]
        obtain ⟨j, hj⟩ : ∃ j : Nat, Lib.index r [32] = j := ⟨(Lib.index r [32]).toNat, by omega⟩
        have hb : ∀ j : Nat, ¬ ((j : Int) == -1) = true := fun j e => by have := beq_iff_eq.1 e; omega
        rw [Lib.splitK, hj, if_neg (hb j), Int.toNat_natCast] at ih
        rw [Lib.splitK, index_next c r h j hj, if_neg (hb (j + 1)), Int.toNat_natCast, spl_cons h ih.symm]
        simp only [List.length_singleton, Nat.add_zero, List.take_succ_cons, List.drop_succ_cons]
theorem spl_word : ∀ (w : List UInt8), (∀ c ∈ w, c ≠ 32) → spl w = [w]
  | [], _ => rfl
  | c :: r, h => by rw [spl_cons (h c (by simp)) (spl_word r fun d hd => h d (by simp [hd]))]
theorem spl_app : ∀ (w r : List UInt8), (∀ c ∈ w, c ≠ 32) → spl (w ++ 32 :: r) = w :: spl r
  | [], r, _ => by rw [List.nil_append, spl, if_pos rfl]
  | c :: l, r, h => by rw [List.cons_append, spl_cons (h c (by simp)) (spl_app l r fun d hd => h d (by simp [hd]))]
theorem joinTail_cons (y : List UInt8) (r : List (List UInt8)) : Lib.joinTail [32] (y :: r) = 32 :: (y ++ Lib.joinTail [32] r) := by simp [Lib.joinTail]
theorem spl_join : ∀ (r : List (List UInt8)) (w : List UInt8), (∀ c ∈ w, c ≠ 32) → (∀ y ∈ r, ∀ c ∈ y, c ≠ 32) → spl (Lib.join (w :: r) [32]) = w :: r
  | [], w, h, _ => by rw [Lib.join_one, spl_word w h]
  | y :: r, w, h, h2 => by
    have ih := spl_join r y (h2 y (by simp)) (fun z hz => h2 z (by simp [hz]))
    rw [Lib.join_cons] at ih
    rw [Lib.join_cons, joinTail_cons, spl_app w _ h, ih]
theorem spl_len : ∀ l, ∀ w ∈ spl l, w.length ≤ l.length
  | [], w, h => by simp [spl] at h; subst h; simp
  | c :: r, w, h => by
    obtain ⟨v, vs, e⟩ := spl_ne r
    have ih := spl_len r
    rw [e] at ih
    by_cases hc : c = 32
    · rw [spl, if_pos hc, e] at h
      simp only [List.mem_cons] at h
      rcases h with rfl | h
      · simp
      · have := ih w (by simp; exact h); simp; omega
    · rw [spl_cons hc e] at h
      simp only [List.mem_cons] at h
      rcases h with rfl | h
      · have := ih v (by simp); simp; omega
      · have := ih w (by simp [h]); simp; omega
theorem spl_count : ∀ l, (spl l).length ≤ l.length + 1
  | [] => by simp [spl]
  | c :: r => by
    obtain ⟨v, vs, e⟩ := spl_ne r
    have ih := spl_count r
    by_cases hc : c = 32
    · rw [spl, if_pos hc]; simp only [List.length_cons]; omega
    · rw [spl_cons hc e]; rw [e] at ih; simp only [List.length_cons] at ih ⊢; omega
/-- What strings.Split hands back at a blank. -/
theorem splitB_spl (s : ByteArray) : (Lib.splitB ⟨#[32]⟩ 0 (Lib.countB s ⟨#[32]⟩) s).map (·.data.toList) = spl s.data.toList := by
  rw [Lib.splitB_data]; exact split_spl s.data.toList
/-- The first line, and what stands behind it. -/
def nl : List UInt8 → Option (List UInt8 × List UInt8)
  | [] => none
  | c :: r => if c = 10 then some ([], r) else match nl r with
    | none => none
    | some (a, b) => some (c :: a, b)
theorem ix_hit (r : List UInt8) : Lib.index (10 :: r) [10] = ((0 : Nat) : Int) := by rw [Lib.index]; simp [List.isPrefixOf]
theorem ix_next (c : UInt8) (r : List UInt8) (h : c ≠ 10) (j : Nat) (hj : Lib.index r [10] = j) : Lib.index (c :: r) [10] = ((j + 1 : Nat) : Int) := by
  have hp : ([10] : List UInt8).isPrefixOf (c :: r) = false := by simp [List.isPrefixOf, Ne.symm h]
  rw [Lib.index, hp, hj]
  have : ¬ ((j : Int) == -1) = true := fun e => by have := beq_iff_eq.1 e; omega
  simp only [Bool.false_eq_true, if_false, if_neg this]; omega
theorem ix_miss (c : UInt8) (r : List UInt8) (h : c ≠ 10) (hj : Lib.index r [10] = -1) : Lib.index (c :: r) [10] = -1 := by
  have hp : ([10] : List UInt8).isPrefixOf (c :: r) = false := by simp [List.isPrefixOf, Ne.symm h]
  rw [Lib.index, hp, hj]; simp
theorem nl_index : ∀ l, (match nl l with | none => Lib.index l [10] = -1 | some (a, b) => Lib.index l [10] = (a.length : Int) ∧ l = a ++ 10 :: b)
  | [] => by rw [nl]; simp [Lib.index, List.isPrefixOf]
  | c :: r => by
    have ih := nl_index r
    rw [nl]
    by_cases h : c = 10
    · subst h; rw [if_pos rfl]; exact ⟨ix_hit r, rfl⟩
    · rw [if_neg h]
      cases e : nl r with
      | none => rw [e] at ih; exact ix_miss c r h ih
      | some q =>
        obtain ⟨a, b⟩ := q
        rw [e] at ih
        exact ⟨by rw [ix_next c r h _ ih.1]; rfl, by rw [ih.2]; rfl⟩
theorem cut_nl (l : List UInt8) : Lib.cut l [10] = match nl l with | none => (l, [], false) | some (a, b) => (a, b, true) := by
  have h := nl_index l
  unfold Lib.cut
  cases e : nl l with
  | none => rw [e] at h; rw [if_neg (by rw [h]; decide)]
  | some q =>
    obtain ⟨a, b⟩ := q
    rw [e] at h
    rw [if_pos (by rw [h.1]; omega), h.1]
    simp only [Int.toNat_natCast, List.length_singleton]
    rw [h.2]; simp
theorem nl_some {l a b : List UInt8} (h : nl l = some (a, b)) : l = a ++ 10 :: b := by
  have := nl_index l; rw [h] at this; exact this.2
theorem nl_app : ∀ (a b : List UInt8), (∀ c ∈ a, c ≠ 10) → nl (a ++ 10 :: b) = some (a, b)
  | [], b, _ => by rw [List.nil_append, nl, if_pos rfl]
  | c :: a, b, h => by
    rw [List.cons_append, nl, if_neg (h c (by simp)), nl_app a b fun d hd => h d (by simp [hd])]
theorem nl_none : ∀ (a : List UInt8), (∀ c ∈ a, c ≠ 10) → nl a = none
  | [], _ => rfl
  | c :: a, h => by rw [nl, if_neg (h c (by simp)), nl_none a fun d hd => h d (by simp [hd])]
end Go.Proofs.YthkcdoneghcglaaDoor
