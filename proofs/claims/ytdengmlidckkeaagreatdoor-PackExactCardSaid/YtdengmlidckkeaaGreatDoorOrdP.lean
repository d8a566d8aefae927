import Derived.Test.YtdengmlidckkeaaGreatDoorOrdN
import Derived.Test.YtdengmlidckkeaaGreatDoorOrdO
set_option linter.unusedSimpArgs false
set_option linter.unusedVariables false
namespace Go.Proofs.YtdengmlidckkeaaGreatDoor
open Go Go.RowKit
abbrev num (l : List UInt8) : Int × Bool := numberL ⟨l.toArray⟩
abbrev byt (l : List UInt8) : List UInt8 × Bool := refBytes l
theorem plainL_asc : ∀ l : List UInt8, asc l = true → plainL l = l
  | [], _ => rfl
  | x :: r, h => by
    rw [asc_cons, Bool.and_eq_true] at h
    have hx : x.toNat < 128 := of_decide_eq_true h.1
    rw [plainL_cons x r (fun y z r' _ => by
      cases e : isWide x y z with
      | false => rfl
      | true => have := (wide_iff x y z).1 e; omega), plainL_asc r h.2]
theorem num_itoa (n : Int) (h : I64 n) : num (Lib.itoa n) = (n, true) := by
  unfold num
  rw [number_same, plainL_asc _ (itoa_asc n), ref_itoa n h]
theorem num_i64 (l : List UInt8) : I64 (num l).1 := by
  unfold num numberL
  cases hat : Lib.atoiAll (thinL ⟨l.toArray⟩) with
  | ok v =>
    dsimp only
    by_cases hq : Lib.itoa v = thinL ⟨l.toArray⟩
    · rw [if_pos hq]; exact Lib.atoiAll_bounds hat
    · rw [if_neg hq]; unfold I64; simp
  | _ => unfold I64; simp
theorem encL_cons (x : UInt8) (a : List UInt8) : encL (x :: a) = 226 :: (160 + UInt8.ofNat (x.toNat / 64)) :: (128 + UInt8.ofNat (x.toNat % 64)) :: encL a := by
  unfold encL; rw [List.flatMap_cons, enc3]; rfl
theorem encL_inj : ∀ a b : List UInt8, encL a = encL b → a = b
  | [], [], _ => rfl
  | [], y :: b, h => by rw [encL_cons] at h; cases h
  | x :: a, [], h => by rw [encL_cons] at h; cases h
  | x :: a, y :: b, h => by
    rw [encL_cons, encL_cons] at h
    simp only [List.cons.injEq] at h
    obtain ⟨_, h1, h2, h3⟩ := h
    rw [encL_inj a b h3]
    congr 1
    have hx : x.toNat < 256 := x.toNat_lt
    have hy : y.toNat < 256 := y.toNat_lt
    have e1 := congrArg UInt8.toNat h1
    have e2 := congrArg UInt8.toNat h2
    rw [UInt8.toNat_add, UInt8.toNat_add, UInt8.toNat_ofNat', UInt8.toNat_ofNat'] at e1 e2
    apply UInt8.toNat.inj
    simp at e1 e2
    omega
theorem byt_runes (d : List UInt8) : byt (runesL d) = (d, true) := by
  unfold byt
  by_cases hd : d = []
  · subst hd; rfl
  · have e : runesL d = encL d := by unfold runesL; rw [if_neg hd]; rfl
    have hn : 0 < d.length := List.length_pos_iff.2 hd
    have hall : ∀ j, j < d.length → tri (encL d) j := fun j hj => tri_of_enc (encL d) d rfl j hj
    rw [e, ref_good (encL d) d.length (encL_len d) hn hall]
    have := enc_take (encL d) d.length hall
    rw [List.take_of_length_le (by rw [encL_len]; exact Nat.le_refl _)] at this
    rw [encL_inj _ _ this]
theorem dec_nb (u : Nat) : ∀ c ∈ Lib.decDigits u, c ≠ 32 := by
  intro c hc
  have h := (dec_digits u).1
  unfold digitsOnly at h
  have := List.all_eq_true.1 h c hc
  intro e; subst e; revert this; decide
theorem itoa_nb (n : Int) : ∀ c ∈ Lib.itoa n, c ≠ 32 := by
  intro c hc
  by_cases h : n < 0
  · rw [itoa_neg n h, List.mem_cons] at hc
    rcases hc with rfl | hc
    · decide
    · exact dec_nb _ c hc
  · rw [itoa_pos n h] at hc; exact dec_nb _ c hc
theorem encL_nb : ∀ d : List UInt8, ∀ c ∈ encL d, c ≠ 32
  | [], c, h => by cases h
  | x :: a, c, h => by
    have hx : x.toNat < 256 := x.toNat_lt
    rw [encL_cons] at h
    simp only [List.mem_cons] at h
    rcases h with rfl | rfl | rfl | h
    · decide
    · intro e; have := congrArg UInt8.toNat e; rw [UInt8.toNat_add, UInt8.toNat_ofNat'] at this; simp at this; omega
    · intro e; have := congrArg UInt8.toNat e; rw [UInt8.toNat_add, UInt8.toNat_ofNat'] at this; simp at this; omega
    · exact encL_nb a c h
theorem runes_nb (d : List UInt8) : ∀ c ∈ runesL d, c ≠ 32 := by
  intro c hc
  unfold runesL at hc
  split at hc
  · rw [List.mem_singleton] at hc; subst hc; decide
  · exact encL_nb d c hc
theorem runes_le (d : List UInt8) : (runesL d).length ≤ 3 * d.length + 1 := by
  unfold runesL
  split
  · simp
  · have := runes_len d; omega
/-- An order: its kind, its numbers, its texts. -/
structure OW where
  k : Nat
  ns : List Int
  ts : List (List UInt8)
theorem OW.ext' {x y : OW} (h1 : x.k = y.k) (h2 : x.ns = y.ns) (h3 : x.ts = y.ts) : x = y := by
  cases x; cases y; subst h1; subst h2; subst h3; rfl
/-- How many numbers, how many texts a kind bears. -/
def nN (k : Nat) : Nat := ([2, 1, 2, 2, 1, 1, 3, 2, 3, 0, 1, 0, 0, 1, 0] : List Nat).getD k 0
def nD (k : Nat) : Nat := ([0, 0, 0, 0, 0, 0, 0, 1, 0, 0, 0, 0, 0, 0, 3] : List Nat).getD k 0
structure OW.form (o : OW) : Prop where
  lt : o.k < 15
  nn : o.ns.length = nN o.k
  nd : o.ts.length = nD o.k
  i64 : ∀ n ∈ o.ns, I64 n
def OW.fits (o : OW) : Bool := o.ts.all fun t => decide (t.length ≤ 512)
/-- An order's line. -/
def textO (o : OW) : List UInt8 := Lib.join (wordL o.k :: (o.ns.map Lib.itoa ++ o.ts.map runesL)) [32]
/-- The reader: the words that are left, and whether one was missing or none's. -/
abbrev Rd := List (List UInt8) × Bool
def rdNext : Rd → List UInt8 × Rd
  | ([], _) => ([], ([], true))
  | (s :: r, b) => (s, (r, b))
def rdNum (st : Rd) : Int × Rd := ((num (rdNext st).1).1, ((rdNext st).2.1, (rdNext st).2.2 || !(num (rdNext st).1).2))
def rdDat (st : Rd) : List UInt8 × Rd := ((byt (rdNext st).1).1, ((rdNext st).2.1, (rdNext st).2.2 || !(byt (rdNext st).1).2))
def rdNums : Nat → Rd → List Int × Rd
  | 0, st => ([], st)
  | n + 1, st => ((rdNum st).1 :: (rdNums n (rdNum st).2).1, (rdNums n (rdNum st).2).2)
def rdDats : Nat → Rd → List (List UInt8) × Rd
  | 0, st => ([], st)
  | n + 1, st => ((rdDat st).1 :: (rdDats n (rdDat st).2).1, (rdDats n (rdDat st).2).2)
/-- The kind that a word begins. -/
def kindOf (w : List UInt8) : Option Nat := (List.range 15).find? fun k => wordL k == w
/-- The order behind a word. -/
def rdKind (k : Nat) (st : Rd) : OW × Rd := (⟨k, (rdNums (nN k) st).1, (rdDats (nD k) (rdNums (nN k) st).2).1⟩, (rdDats (nD k) (rdNums (nN k) st).2).2)
def parseW (ws : List (List UInt8)) : Option OW :=
  match kindOf (rdNext (ws, false)).1 with
  | none => none
  | some k =>
    if (rdKind k (rdNext (ws, false)).2).1.fits && !(rdKind k (rdNext (ws, false)).2).2.2 && (rdKind k (rdNext (ws, false)).2).2.1.isEmpty then some (rdKind k (rdNext (ws, false)).2).1 else none
/-- A line's order. -/
def parseL (l : List UInt8) : Option OW := parseW (spl l)
theorem kind_word : ∀ k, k < 15 → kindOf (wordL k) = some k := by decide
theorem kind_lt {w : List UInt8} {k : Nat} (h : kindOf w = some k) : k < 15 ∧ wordL k = w := by
  have h1 := List.mem_of_find?_eq_some h
  have h2 := List.find?_some h
  exact ⟨List.mem_range.1 h1, by simpa using h2⟩
theorem kind_none {w : List UInt8} (h : kindOf w = none) : ∀ k, k < 15 → (wordL k == w) = false := by
  intro k hk
  have := List.find?_eq_none.1 h k (List.mem_range.2 hk)
  simpa using this
theorem word_nb : ∀ k, ∀ c ∈ wordL k, c ≠ 32 := by
  intro k
  rcases Nat.lt_or_ge k 15 with h | h
  · have : ∀ k, k < 15 → (wordL k).all (fun c => !(c == 32)) = true := by decide
    intro c hc
    have := List.all_eq_true.1 (this k h) c hc
    simpa using this
  · intro c hc
    unfold wordL at hc
    rw [List.getD_eq_getElem?_getD, List.getElem?_eq_none (by simpa using h)] at hc; cases hc
theorem rdNums_itoa : ∀ (ns : List Int) (r : List (List UInt8)) (b : Bool), (∀ n ∈ ns, I64 n) → rdNums ns.length (ns.map Lib.itoa ++ r, b) = (ns, (r, b))
  | [], _, _, _ => rfl
  | n :: ns, r, b, h => by
    have e : rdNum ((n :: ns).map Lib.itoa ++ r, b) = (n, (ns.map Lib.itoa ++ r, b)) := by
      unfold rdNum
      show ((num (Lib.itoa n)).1, (ns.map Lib.itoa ++ r, b || !(num (Lib.itoa n)).2)) = _
      rw [num_itoa n (h n (by simp))]; simp
    rw [List.length_cons, rdNums, e, rdNums_itoa ns r b fun m hm => h m (by simp [hm])]
theorem rdDats_runes : ∀ (ts : List (List UInt8)) (b : Bool), rdDats ts.length (ts.map runesL, b) = (ts, ([], b))
  | [], _ => rfl
  | t :: ts, b => by
    have e : rdDat ((t :: ts).map runesL, b) = (t, (ts.map runesL, b)) := by
      unfold rdDat
      show ((byt (runesL t)).1, (ts.map runesL, b || !(byt (runesL t)).2)) = _
      rw [byt_runes t]; simp
    rw [List.length_cons, rdDats, e, rdDats_runes ts b]
theorem spl_text (o : OW) : spl (textO o) = wordL o.k :: (o.ns.map Lib.itoa ++ o.ts.map runesL) := by
  unfold textO
  apply spl_join _ _ (word_nb o.k)
  intro y hy c hc
  rcases List.mem_append.1 hy with q | q
  · obtain ⟨n, _, rfl⟩ := List.mem_map.1 q; exact itoa_nb n c hc
  · obtain ⟨n, _, rfl⟩ := List.mem_map.1 q; exact runes_nb n c hc
/-- What was told is read as it was. -/
theorem parse_text (o : OW) (h : o.form) (hf : o.fits = true) : parseL (textO o) = some o := by
  obtain ⟨k, ns, ts⟩ := o
  unfold parseL
  rw [spl_text]
  unfold parseW
  simp only [rdNext]
  rw [kind_word k h.lt]
  have e : rdKind k (ns.map Lib.itoa ++ ts.map runesL, false) = (⟨k, ns, ts⟩, ([], false)) := by
    unfold rdKind
    have hn : ns.length = nN k := h.nn
    have hd : ts.length = nD k := h.nd
    rw [← hn, ← hd, rdNums_itoa ns _ _ h.i64, rdDats_runes]
  simp only [e, hf]; rfl
theorem rdNums_form : ∀ (n : Nat) (st : Rd), (rdNums n st).1.length = n ∧ ∀ m ∈ (rdNums n st).1, I64 m
  | 0, _ => ⟨rfl, fun _ h => by cases h⟩
  | n + 1, st => by
    obtain ⟨a, b⟩ := rdNums_form n (rdNum st).2
    refine ⟨by rw [rdNums, List.length_cons, a], fun m hm => ?_⟩
    rw [rdNums, List.mem_cons] at hm
    rcases hm with rfl | hm
    · exact num_i64 _
    · exact b m hm
theorem rdDats_len : ∀ (n : Nat) (st : Rd), (rdDats n st).1.length = n
  | 0, _ => rfl
  | n + 1, st => by rw [rdDats, List.length_cons, rdDats_len n]
theorem rdKind_form (k : Nat) (hk : k < 15) (st : Rd) : (rdKind k st).1.form :=
  ⟨hk, (rdNums_form _ _).1, rdDats_len _ _, (rdNums_form _ _).2⟩
theorem parse_form {l : List UInt8} {o : OW} (h : parseL l = some o) : o.form ∧ o.fits = true := by
  unfold parseL parseW at h
  cases hk : kindOf (rdNext (spl l, false)).1 with
  | none => rw [hk] at h; cases h
  | some k =>
    rw [hk] at h
    dsimp only at h
    split at h
    · rename_i hc
      cases h
      simp only [Bool.and_eq_true] at hc
      exact ⟨rdKind_form k (kind_lt hk).1 _, hc.1.1⟩
    · cases h
/-- Unlike orders have unlike lines. -/
theorem text_inj (x y : OW) (hx : x.form) (hy : y.form) (fx : x.fits = true) (fy : y.fits = true) (h : textO x = textO y) : x = y := by
  have a := parse_text x hx fx
  have b := parse_text y hy fy
  rw [h, b] at a
  exact (Option.some.inj a).symm
end Go.Proofs.YtdengmlidckkeaaGreatDoor
