import Derived.Test.YthkcdoneghcglaaDoorScrA
import Derived.Lib.CountLaws
import Derived.Lib.IndexMore
set_option linter.unusedSimpArgs false
set_option linter.unusedVariables false
/- Plain laws of layer 32: sets, runs, texts. No program in sight. -/
namespace Go.Proofs.YthkcdoneghcglaaDoor
open Go
/-- Strictly rising from lo on, up to 9999. -/
def gI (lo : Int) : List Int → Bool
  | [] => true
  | n :: r => decide (lo < n) && decide (n ≤ 9999) && gI n r
/-- Whether a list is a set. -/
def goodI (l : List Int) : Bool := gI (-1) l
def okI (l : List Int) (j : Nat) : Bool := decide (0 ≤ l.getD j 0) && decide (l.getD j 0 ≤ 9999) && (decide (j = 0) || decide (l.getD (j - 1) 0 < l.getD j 0))
theorem gI_iff : ∀ (L : List Int) (lo : Int), gI lo L = true ↔ ∀ j, j < L.length → L.getD j 0 ≤ 9999 ∧ (if j = 0 then lo else L.getD (j - 1) 0) < L.getD j 0
  | [], lo => by simp [gI]
  | x :: r, lo => by
    rw [gI, Bool.and_eq_true, Bool.and_eq_true, gI_iff r x, decide_eq_true_eq, decide_eq_true_eq]
    constructor
    · rintro ⟨⟨h1, h2⟩, h3⟩ j hj
      cases j with
      | zero => exact ⟨h2, h1⟩
      | succ j =>
        have := h3 j (by simp at hj; omega)
        refine ⟨by simpa using this.1, ?_⟩
        have h4 := this.2
        cases j with
        | zero => simpa using h4
        | succ j => simpa using h4
    · intro h
      have h0 := h 0 (by simp)
      refine ⟨⟨by simpa using h0.2, by simpa using h0.1⟩, fun j hj => ?_⟩
      have := h (j + 1) (by simp; omega)
      refine ⟨by simpa using this.1, ?_⟩
      have h4 := this.2
      cases j with
      | zero => simpa using h4
      | succ j => simpa using h4
theorem gI_lo : ∀ (L : List Int) (lo : Int), gI lo L = true → ∀ x ∈ L, lo < x
  | [], _, _, x, hx => by cases hx
  | y :: r, lo, h, x, hx => by
    rw [gI, Bool.and_eq_true, Bool.and_eq_true, decide_eq_true_eq, decide_eq_true_eq] at h
    rcases List.mem_cons.1 hx with rfl | hx
    · exact h.1.1
    · have := gI_lo r y h.2 x hx; omega
theorem gI_hi : ∀ (L : List Int) (lo : Int), gI lo L = true → ∀ x ∈ L, x ≤ 9999
  | [], _, _, x, hx => by cases hx
  | y :: r, lo, h, x, hx => by
    rw [gI, Bool.and_eq_true, Bool.and_eq_true, decide_eq_true_eq, decide_eq_true_eq] at h
    rcases List.mem_cons.1 hx with rfl | hx
    · exact h.1.2
    · exact gI_hi r y h.2 x hx
theorem goodI_all {L : List Int} (h : ∀ j, j < L.length → okI L j = true) : goodI L = true := by
  unfold goodI
  rw [gI_iff]
  intro j hj
  have := h j hj
  unfold okI at this
  simp only [Bool.and_eq_true, Bool.or_eq_true, decide_eq_true_eq] at this
  refine ⟨this.1.2, ?_⟩
  split
  · omega
  · rcases this.2 with q | q
    · omega
    · exact q
theorem goodI_ok {L : List Int} (h : goodI L = true) {j : Nat} (hj : j < L.length) : okI L j = true := by
  have hm : L.getD j 0 ∈ L := by rw [List.getD_eq_getElem?_getD, List.getElem?_eq_getElem hj]; exact List.getElem_mem hj
  have h0 := gI_lo L _ h _ hm
  unfold goodI at h
  rw [gI_iff] at h
  have := h j hj
  unfold okI
  simp only [Bool.and_eq_true, Bool.or_eq_true, decide_eq_true_eq]
  refine ⟨⟨by omega, this.1⟩, ?_⟩
  by_cases e : j = 0
  · exact .inl e
  · right; have := this.2; rw [if_neg e] at this; exact this
theorem goodI_bad {L : List Int} {j : Nat} (hj : j < L.length) (h : okI L j = false) : goodI L = false := by
  cases e : goodI L with
  | false => rfl
  | true => rw [goodI_ok e hj] at h; cases h
/-! Runs. -/
def runsF (a b : Int) : List Int → List (Int × Int)
  | [] => [(a, b)]
  | n :: r => if b + 1 = n then runsF a n r else (a, b) :: runsF n n r
def runs : List Int → List (Int × Int)
  | [] => []
  | n :: r => runsF n n r
theorem runsF_snoc (n : Int) : ∀ (r : List Int) (a b : Int), ∃ R a' b', runsF a b r = R ++ [(a', b')] ∧ b' = r.getLastD b ∧ runsF a b (r ++ [n]) = if b' + 1 = n then R ++ [(a', n)] else R ++ [(a', b')] ++ [(n, n)]
  | [], a, b => by
    refine ⟨[], a, b, rfl, rfl, ?_⟩
    rw [List.nil_append, runsF]
    split <;> rfl
  | m :: r, a, b => by
    rw [List.cons_append, runsF, runsF]
    by_cases h : b + 1 = m
    · rw [if_pos h, if_pos h]
      obtain ⟨R, a', b', h1, h2, h3⟩ := runsF_snoc n r a m
      refine ⟨R, a', b', h1, ?_, h3⟩
      rw [h2]; cases r <;> rfl
    · rw [if_neg h, if_neg h]
      obtain ⟨R, a', b', h1, h2, h3⟩ := runsF_snoc n r m m
      refine ⟨(a, b) :: R, a', b', by rw [h1]; rfl, ?_, ?_⟩
      · rw [h2]; cases r <;> rfl
      · rw [h3]; split <;> rfl
theorem runs_snoc (n m : Int) (l : List Int) : ∃ R a', runs (l ++ [m]) = R ++ [(a', m)] ∧ runs (l ++ [m] ++ [n]) = if m + 1 = n then R ++ [(a', n)] else R ++ [(a', m)] ++ [(n, n)] := by
  cases l with
  | nil =>
    obtain ⟨R, a', b', h1, h2, h3⟩ := runsF_snoc n [] m m
    have : b' = m := h2
    subst this
    exact ⟨R, a', h1, h3⟩
  | cons x r =>
    obtain ⟨R, a', b', h1, h2, h3⟩ := runsF_snoc n (r ++ [m]) x x
    have : b' = m := by rw [h2]; simp
    subst this
    exact ⟨R, a', h1, h3⟩
/-- The numbers of a run. -/
def rng (a b : Int) : List Int := (List.range (b + 1 - a).toNat).map fun (i : Nat) => a + (i : Int)
def exp (R : List (Int × Int)) : List Int := R.flatMap fun p => rng p.1 p.2
theorem rng_one (a : Int) : rng a a = [a] := by unfold rng; rw [show a + 1 - a = 1 by omega]; simp
theorem rng_snoc (a b : Int) (h : a ≤ b + 1) : rng a (b + 1) = rng a b ++ [b + 1] := by
  unfold rng
  rw [show (b + 1 + 1 - a).toNat = (b + 1 - a).toNat + 1 by omega, List.range_succ, List.map_append]
  congr 1
  simp; omega
theorem rng_cons (a b : Int) (h : a ≤ b) : rng a b = a :: rng (a + 1) b := by
  unfold rng
  rw [show (b + 1 - a).toNat = (b + 1 - (a + 1)).toNat + 1 by omega, List.range_succ_eq_map, List.map_cons, List.map_map]
  simp only [Int.natCast_zero, Int.add_zero, List.cons.injEq, true_and]
  apply List.map_congr_left
  intro i _
  simp; omega
theorem rng_nil (a b : Int) (h : b < a) : rng a b = [] := by unfold rng; rw [show (b + 1 - a).toNat = 0 by omega]; rfl
theorem exp_runsF : ∀ (r : List Int) (a b : Int), a ≤ b → exp (runsF a b r) = rng a b ++ r
  | [], a, b, h => by simp [runsF, exp]
  | n :: r, a, b, h => by
    rw [runsF]
    by_cases e : b + 1 = n
    · rw [if_pos e, exp_runsF r a n (by omega), ← e, rng_snoc a b (by omega)]; simp
    · rw [if_neg e]
      show rng a b ++ exp (runsF n n r) = _
      rw [exp_runsF r n n (Int.le_refl _), rng_one]; simp
theorem exp_runs (l : List Int) : exp (runs l) = l := by
  cases l with
  | nil => rfl
  | cons n r => rw [runs, exp_runsF r n n (Int.le_refl _), rng_one]; rfl
/-- Runs of a set: rising, apart. -/
def vr (lo : Int) : List (Int × Int) → Prop
  | [] => True
  | p :: r => lo < p.1 ∧ p.1 ≤ p.2 ∧ p.2 ≤ 9999 ∧ vr (p.2 + 1) r
theorem vr_runsF : ∀ (r : List Int) (a b lo : Int), lo < a → a ≤ b → b ≤ 9999 → gI b r = true → vr lo (runsF a b r)
  | [], a, b, lo, h1, h2, h3, _ => ⟨h1, h2, h3, trivial⟩
  | n :: r, a, b, lo, h1, h2, h3, h4 => by
    rw [gI, Bool.and_eq_true, Bool.and_eq_true, decide_eq_true_eq, decide_eq_true_eq] at h4
    rw [runsF]
    by_cases e : b + 1 = n
    · rw [if_pos e]; exact vr_runsF r a n lo h1 (by omega) h4.1.2 h4.2
    · rw [if_neg e]; exact ⟨h1, h2, h3, vr_runsF r n n (b + 1) (by omega) (Int.le_refl _) h4.1.2 h4.2⟩
theorem vr_runs {l : List Int} (h : goodI l = true) : vr (-1) (runs l) := by
  cases l with
  | nil => trivial
  | cons n r =>
    unfold goodI at h
    rw [gI, Bool.and_eq_true, Bool.and_eq_true, decide_eq_true_eq, decide_eq_true_eq] at h
    exact vr_runsF r n n (-1) h.1.1 (Int.le_refl _) h.1.2 h.2
theorem gI_mono {l : List Int} {lo lo' : Int} (h : gI lo l = true) (hl : lo' ≤ lo) : gI lo' l = true := by
  cases l with
  | nil => rfl
  | cons n r =>
    rw [gI, Bool.and_eq_true, Bool.and_eq_true, decide_eq_true_eq, decide_eq_true_eq] at h ⊢
    exact ⟨⟨by omega, h.1.2⟩, h.2⟩
theorem gI_rng (r : List Int) : ∀ (k : Nat) (a b lo : Int), (b + 1 - a).toNat = k → lo < a → a ≤ b → b ≤ 9999 → gI b r = true → gI lo (rng a b ++ r) = true
  | 0, a, b, lo, hk, h1, h2, h3, h4 => by omega
  | k + 1, a, b, lo, hk, h1, h2, h3, h4 => by
    rw [rng_cons a b h2, List.cons_append, gI, Bool.and_eq_true, Bool.and_eq_true, decide_eq_true_eq, decide_eq_true_eq]
    refine ⟨⟨h1, by omega⟩, ?_⟩
    by_cases e : a = b
    · rw [e, rng_nil _ _ (by omega), List.nil_append]; exact h4
    · exact gI_rng r k (a + 1) b a (by omega) (by omega) (by omega) h3 h4
theorem gI_exp : ∀ (R : List (Int × Int)) (lo : Int), vr lo R → gI lo (exp R) = true
  | [], lo, _ => rfl
  | p :: r, lo, ⟨h1, h2, h3, h4⟩ => by
    show gI lo (rng p.1 p.2 ++ exp r) = true
    exact gI_rng _ _ p.1 p.2 lo rfl h1 h2 h3 (gI_mono (gI_exp r (p.2 + 1) h4) (by omega))
theorem runsF_rng (R : List Int) : ∀ (k : Nat) (a c b : Int), (b - c).toNat = k → a ≤ c → c ≤ b → runsF a c (rng (c + 1) b ++ R) = runsF a b R
  | 0, a, c, b, hk, h1, h2 => by
    have : c = b := by omega
    rw [this, rng_nil _ _ (by omega)]; rfl
  | k + 1, a, c, b, hk, h1, h2 => by
    rw [rng_cons (c + 1) b (by omega), List.cons_append, runsF, if_pos rfl]
    exact runsF_rng R k a (c + 1) b (by omega) (by omega) (by omega)
theorem runs_exp : ∀ (R : List (Int × Int)) (lo : Int), vr lo R → runs (exp R) = R ∧ ∀ a b, b + 1 ≤ lo → a ≤ b → runsF a b (exp R) = (a, b) :: R ∨ (R = [] ∧ runsF a b (exp R) = [(a, b)])
  | [], lo, _ => ⟨rfl, fun a b _ _ => .inr ⟨rfl, rfl⟩⟩
  | (p, q) :: r, lo, ⟨h1, h2, h3, h4⟩ => by
    dsimp only at h1 h2 h3 h4
    have hx : exp ((p, q) :: r) = p :: (rng (p + 1) q ++ exp r) := by
      show rng p q ++ exp r = _
      rw [rng_cons p q h2]; rfl
    have hr : runsF p p (rng (p + 1) q ++ exp r) = (p, q) :: r := by
      rw [runsF_rng (exp r) _ p p q rfl (Int.le_refl _) h2]
      rcases (runs_exp r (q + 1) h4).2 p q (by omega) h2 with h | ⟨rfl, h⟩
      · exact h
      · exact h
    refine ⟨by rw [hx, runs]; exact hr, fun a b hb hab => .inl ?_⟩
    rw [hx, runsF, if_neg (by omega), hr]
theorem runs_of {R : List (Int × Int)} (h : vr (-1) R) : runs (exp R) = R := (runs_exp R (-1) h).1
/-! Texts. -/
def thru : List UInt8 := [226, 128, 166]
def comma : List UInt8 := [216, 140]
def runT (p : Int × Int) : List UInt8 := Lib.itoa p.1 ++ (if p.1 < p.2 then thru ++ Lib.itoa p.2 else [])
def textR (R : List (Int × Int)) : List UInt8 := Lib.join (R.map runT) comma
def textB (l : List Int) : List UInt8 := if l = [] then [226, 136, 133] else textR (runs l)
end Go.Proofs.YthkcdoneghcglaaDoor
