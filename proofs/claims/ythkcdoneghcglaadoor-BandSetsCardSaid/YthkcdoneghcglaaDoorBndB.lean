import Derived.Test.YthkcdoneghcglaaDoorBndA
set_option linter.unusedSimpArgs false
set_option linter.unusedVariables false
/- Plain laws of layer 32: texts read. -/
namespace Go.Proofs.YthkcdoneghcglaaDoor
open Go
/-- What stands between commas. -/
def spl2 : List UInt8 → List (List UInt8)
  | [] => [[]]
  | [c] => [[c]]
  | c :: d :: r => if c = 216 ∧ d = 140 then [] :: spl2 r else match spl2 (d :: r) with
    | [] => [[c]]
    | w :: ws => (c :: w) :: ws
theorem spl2_ne : ∀ l, ∃ w ws, spl2 l = w :: ws
  | [] => ⟨_, _, rfl⟩
  | [c] => ⟨_, _, rfl⟩
  | c :: d :: r => by
    obtain ⟨w, ws, e⟩ := spl2_ne (d :: r)
    rw [spl2]
    split
    · exact ⟨_, _, rfl⟩
    · rw [e]; exact ⟨_, _, rfl⟩
theorem ixc_hit (r : List UInt8) : Lib.index (216 :: 140 :: r) comma = ((0 : Nat) : Int) := by rw [Lib.index]; simp [List.isPrefixOf, comma]
theorem ixc_step (c d : UInt8) (r : List UInt8) (h : ¬ (c = 216 ∧ d = 140)) : Lib.index (c :: d :: r) comma = if Lib.index (d :: r) comma == -1 then -1 else Lib.index (d :: r) comma + 1 := by
  have hp : comma.isPrefixOf (c :: d :: r) = false := by
    unfold comma
    simp only [List.isPrefixOf, Bool.and_true, Bool.and_eq_false_iff]
    by_cases h1 : c = 216
    · right; have : d ≠ 140 := fun e => h ⟨h1, e⟩
      simpa using Ne.symm this
    · left; simpa using Ne.symm h1
  rw [Lib.index, hp]; simp
theorem ixc_one (c : UInt8) : Lib.index [c] comma = -1 := by
  rw [Lib.index]; simp [List.isPrefixOf, comma, Lib.index]
theorem split_spl2 : ∀ l, Lib.splitK comma 0 (Lib.count l comma) l = spl2 l
  | [] => by rw [Lib.count_miss (by decide)]; rfl
  | [c] => by rw [Lib.count_miss (ixc_one c)]; rfl
  | c :: d :: r => by
    by_cases h : c = 216 ∧ d = 140
    · obtain ⟨rfl, rfl⟩ := h
      have ih := split_spl2 r
      rw [Lib.count_hit (by decide) (ixc_hit r), Nat.add_comm, Lib.splitK, ixc_hit]
      rw [if_neg (by decide)]
      show [] :: Lib.splitK comma 0 (Lib.count r comma) r = _
      rw [ih, spl2, if_pos ⟨rfl, rfl⟩]
    · have ih := split_spl2 (d :: r)
      have hs := ixc_step c d r h
      rw [spl2, if_neg h]
      by_cases hm : Lib.index (d :: r) comma = -1
      · rw [Lib.count_miss hm] at ih
        rw [Lib.count_miss (by rw [hs, hm]; rfl), ← ih]; rfl
      · have hge := Lib.index_ge (d :: r) comma
        obtain ⟨j, hj⟩ : ∃ j : Nat, Lib.index (d :: r) comma = j := ⟨(Lib.index (d :: r) comma).toNat, by omega⟩
        have hb : ∀ j : Nat, ¬ ((j : Int) == -1) = true := fun j e => by have := beq_iff_eq.1 e; omega
        have hs2 : Lib.index (c :: d :: r) comma = ((j + 1 : Nat) : Int) := by rw [hs, hj, if_neg (hb j)]; omega
        rw [Lib.count_hit (by decide) hj, Nat.add_comm, Lib.splitK, hj, if_neg (hb j), Int.toNat_natCast] at ih
        have e1 : j + 1 + comma.length = (j + comma.length) + 1 := by omega
        rw [Lib.count_hit (by decide) hs2, Nat.add_comm, Lib.splitK, hs2, if_neg (hb (j + 1)), Int.toNat_natCast, e1, List.drop_succ_cons]
        rw [Nat.add_zero] at ih ⊢
        rw [List.take_succ_cons]
        cases hsp : spl2 (d :: r) with
        | nil => rw [hsp] at ih; cases ih
        | cons w ws =>
          rw [hsp] at ih
          injection ih with i1 i2
          rw [i1, i2]
theorem splitC_spl (s : ByteArray) : (Lib.splitB ⟨#[216, 140]⟩ 0 (Lib.countB s ⟨#[216, 140]⟩) s).map (·.data.toList) = spl2 s.data.toList := by
  rw [Lib.splitB_data]; exact split_spl2 s.data.toList
theorem spl2_join : ∀ l, Lib.join (spl2 l) comma = l
  | [] => rfl
  | [c] => rfl
  | c :: d :: r => by
    rw [spl2]
    split
    · rename_i h
      obtain ⟨rfl, rfl⟩ := h
      have ih := spl2_join r
      obtain ⟨w, ws, e⟩ := spl2_ne r
      rw [e] at ih ⊢
      rw [Lib.join_cons]
      rw [Lib.join_cons] at ih
      have : Lib.joinTail comma (w :: ws) = comma ++ (w ++ Lib.joinTail comma ws) := by simp [Lib.joinTail]
      rw [this, ih]; rfl
    · have ih := spl2_join (d :: r)
      obtain ⟨w, ws, e⟩ := spl2_ne (d :: r)
      rw [e] at ih ⊢
      rw [Lib.join_cons] at ih ⊢
      rw [List.cons_append, ih]
theorem spl2_word : ∀ (w : List UInt8), (∀ c ∈ w, c ≠ 216) → spl2 w = [w]
  | [], _ => rfl
  | [c], _ => rfl
  | c :: d :: r, h => by
    rw [spl2, if_neg (fun q => h c (by simp) q.1), spl2_word (d :: r) fun e he => h e (by simp at he ⊢; right; exact he)]
theorem spl2_app : ∀ (w r : List UInt8), (∀ c ∈ w, c ≠ 216) → spl2 (w ++ (comma ++ r)) = w :: spl2 r
  | [], r, _ => by show spl2 (216 :: 140 :: r) = _; rw [spl2, if_pos ⟨rfl, rfl⟩]
  | [c], r, h => by
    show spl2 (c :: 216 :: 140 :: r) = _
    rw [spl2, if_neg (fun q => h c (by simp) q.1), spl2, if_pos ⟨rfl, rfl⟩]
  | c :: d :: w, r, h => by
    show spl2 (c :: d :: (w ++ (comma ++ r))) = _
    have ih := spl2_app (d :: w) r fun e he => h e (by simp at he ⊢; right; exact he)
    rw [List.cons_append] at ih
    rw [spl2, if_neg (fun q => h c (by simp) q.1), ih]
theorem spl2_words : ∀ (r : List (List UInt8)) (w : List UInt8), (∀ c ∈ w, c ≠ 216) → (∀ y ∈ r, ∀ c ∈ y, c ≠ 216) → spl2 (Lib.join (w :: r) comma) = w :: r
  | [], w, h, _ => by rw [Lib.join_one, spl2_word w h]
  | y :: r, w, h, h2 => by
    have ih := spl2_words r y (h2 y (by simp)) (fun z hz => h2 z (by simp [hz]))
    rw [Lib.join_cons] at ih
    have : Lib.joinTail comma (y :: r) = comma ++ (y ++ Lib.joinTail comma r) := by simp [Lib.joinTail]
    rw [Lib.join_cons, this, spl2_app w _ h, ih]
/-! Cut at the mark within a run. -/
theorem cut_some {s x y : List UInt8} (h : Lib.cut s thru = (x, y, true)) : s = x ++ (thru ++ y) := by
  unfold Lib.cut at h
  rcases Lib.index_spec s thru with ⟨h1, _⟩ | ⟨i, h1, h2, h3, _⟩
  · rw [if_neg (by omega)] at h; cases h
  · rw [if_pos (by omega)] at h
    simp only [h1, Int.toNat_natCast, Prod.mk.injEq, and_true] at h
    obtain ⟨rfl, rfl⟩ := h
    unfold Lib.occAt at h3
    obtain ⟨t, ht⟩ := List.isPrefixOf_iff_prefix.1 h3
    have e1 := List.take_append_drop i s
    rw [← ht] at e1
    rw [← List.drop_drop, ← ht]
    rw [List.drop_left]
    rw [e1]
theorem cut_none {s x y : List UInt8} (h : Lib.cut s thru = (x, y, false)) : x = s := by
  unfold Lib.cut at h
  split at h
  · cases h
  · cases h; rfl
theorem ixt_none : ∀ (x : List UInt8), (∀ c ∈ x, c ≠ 226) → Lib.index x thru = -1
  | [], _ => by decide
  | c :: x, h => by
    have hp : thru.isPrefixOf (c :: x) = false := by
      unfold thru
      simp only [List.isPrefixOf, Bool.and_eq_false_iff]
      left; simpa using Ne.symm (h c (by simp))
    rw [Lib.index, hp, ixt_none x fun d hd => h d (by simp [hd])]; simp
theorem ixt_at : ∀ (x y : List UInt8), (∀ c ∈ x, c ≠ 226) → Lib.index (x ++ (thru ++ y)) thru = (x.length : Int)
  | [], y, _ => by
    show Lib.index (226 :: 128 :: 166 :: y) thru = 0
    rw [Lib.index]; simp [List.isPrefixOf, thru]
  | c :: x, y, h => by
    have hp : thru.isPrefixOf (c :: (x ++ (thru ++ y))) = false := by
      unfold thru
      simp only [List.isPrefixOf, Bool.and_eq_false_iff]
      left; simpa using Ne.symm (h c (by simp))
    rw [List.cons_append, Lib.index, hp, ixt_at x y fun d hd => h d (by simp [hd])]
    have : ¬ (((x.length : Int)) == -1) = true := fun e => by have := beq_iff_eq.1 e; omega
    simp [this]
theorem cut_no (x : List UInt8) (h : ∀ c ∈ x, c ≠ 226) : Lib.cut x thru = (x, [], false) := by
  unfold Lib.cut; rw [ixt_none x h, if_neg (by decide)]
theorem cut_at (x y : List UInt8) (h : ∀ c ∈ x, c ≠ 226) : Lib.cut (x ++ (thru ++ y)) thru = (x, y, true) := by
  unfold Lib.cut
  rw [ixt_at x y h, if_pos (by omega)]
  simp only [Int.toNat_natCast]
  rw [List.take_left, ← List.drop_drop, List.drop_left, List.drop_left]
/-! Numbers and runs, as the program reads them. -/
def nB (p : List UInt8) : Option Int := match pNum p with
  | some n => if 0 ≤ n ∧ n ≤ 9999 then some n else none
  | none => none
theorem nB_some {p : List UInt8} {n : Int} (h : nB p = some n) : Lib.itoa n = p ∧ 0 ≤ n ∧ n ≤ 9999 := by
  unfold nB at h
  split at h
  · rename_i m hm
    split at h
    · rename_i hb; cases h; exact ⟨(pNum_some hm).1, hb⟩
    · cases h
  · cases h
theorem nB_itoa (n : Int) (h0 : 0 ≤ n) (h1 : n ≤ 9999) : nB (Lib.itoa n) = some n := by
  unfold nB; rw [pNum_itoa n (by unfold I64; omega)]; dsimp only; rw [if_pos ⟨h0, h1⟩]
def runP (p : List UInt8) : Option (Int × Int) :=
  match Lib.cut p thru with
  | (x, y, true) => match nB x, nB y with
    | some a, some b => if a < b then some (a, b) else none
    | _, _ => none
  | (x, _, false) => match nB x with
    | some a => some (a, a)
    | none => none
theorem runP_some {p : List UInt8} {q : Int × Int} (h : runP p = some q) : p = runT q ∧ 0 ≤ q.1 ∧ q.1 ≤ q.2 ∧ q.2 ≤ 9999 := by
  unfold runP at h
  split at h
  · rename_i x y hc
    split at h
    · rename_i a b ha hb
      split at h
      · rename_i hab
        cases h
        have h1 := nB_some ha
        have h2 := nB_some hb
        refine ⟨?_, h1.2.1, by dsimp only; omega, h2.2.2⟩
        rw [cut_some hc]
        unfold runT
        dsimp only
        rw [if_pos hab, h1.1, h2.1]
      · cases h
    · cases h
  · rename_i x y hc
    split at h
    · rename_i a ha
      cases h
      have h1 := nB_some ha
      refine ⟨?_, h1.2.1, Int.le_refl _, h1.2.2⟩
      unfold runT
      dsimp only
      rw [if_neg (by omega), List.append_nil, h1.1, cut_none hc]
    · cases h
theorem itoa_not (n : Int) (k : UInt8) (hk : 57 < k.toNat) : ∀ c ∈ Lib.itoa n, c ≠ k := by
  intro c hc e
  subst e
  have := itoa_mem n _ hc
  omega
theorem runP_runT (q : Int × Int) (h0 : 0 ≤ q.1) (h1 : q.1 ≤ q.2) (h2 : q.2 ≤ 9999) : runP (runT q) = some q := by
  obtain ⟨a, b⟩ := q
  dsimp only at h0 h1 h2
  unfold runP runT
  dsimp only
  by_cases h : a < b
  · rw [if_pos h, cut_at _ _ (itoa_not a 226 (by decide))]
    dsimp only
    rw [nB_itoa a h0 (by omega), nB_itoa b (by omega) h2]
    dsimp only
    rw [if_pos h]
  · rw [if_neg h, List.append_nil, cut_no _ (itoa_not a 226 (by decide))]
    dsimp only
    rw [nB_itoa a h0 (by omega)]
    have : a = b := by omega
    rw [this]
def pGo (e : Int) : List (List UInt8) → Option (List (Int × Int))
  | [] => some []
  | p :: ps => match runP p with
    | some q => if q.1 ≤ e + 1 then none else (pGo q.2 ps).map (q :: ·)
    | none => none
theorem pGo_some : ∀ (ps : List (List UInt8)) (e : Int) (R : List (Int × Int)), pGo e ps = some R → ps = R.map runT ∧ vr (e + 1) R
  | [], e, R, h => by rw [pGo] at h; cases h; exact ⟨rfl, trivial⟩
  | p :: ps, e, R, h => by
    rw [pGo] at h
    split at h
    · rename_i q hq
      split at h
      · cases h
      · rename_i hlt
        obtain ⟨R', hR', rfl⟩ := Option.map_eq_some_iff.1 h
        obtain ⟨h1, h2⟩ := pGo_some ps q.2 R' hR'
        obtain ⟨g1, g2, g3, g4⟩ := runP_some hq
        exact ⟨by rw [List.map_cons, ← h1, ← g1], by omega, g3, g4, h2⟩
    · cases h
theorem pGo_map : ∀ (R : List (Int × Int)) (e : Int), -1 ≤ e + 1 → vr (e + 1) R → pGo e (R.map runT) = some R
  | [], _, _, _ => rfl
  | q :: R, e, he, ⟨h1, h2, h3, h4⟩ => by
    rw [List.map_cons, pGo, runP_runT q (by omega) h2 h3]
    dsimp only
    rw [if_neg (by omega), pGo_map R q.2 (by omega) h4]; rfl
def nothing : List UInt8 := [226, 136, 133]
/-- The set of a text, as the program reads it. -/
def pPar (s : List UInt8) : Option (List Int) := if s = nothing then some [] else (pGo (-2) (spl2 s)).map exp
theorem runT_not (q : Int × Int) : ∀ c ∈ runT q, c ≠ 216 := by
  intro c hc
  unfold runT at hc
  rw [List.mem_append] at hc
  rcases hc with h | h
  · exact itoa_not _ 216 (by decide) c h
  · split at h
    · rw [List.mem_append] at h
      rcases h with h | h
      · unfold thru at h; simp at h; rcases h with rfl | rfl | rfl <;> decide
      · exact itoa_not _ 216 (by decide) c h
    · cases h
theorem spl2_text (R : List (Int × Int)) (h : R ≠ []) : spl2 (textR R) = R.map runT := by
  cases R with
  | nil => exact absurd rfl h
  | cons q R =>
    unfold textR
    rw [List.map_cons]
    refine spl2_words _ _ (runT_not q) fun y hy => ?_
    obtain ⟨p, _, rfl⟩ := List.mem_map.1 hy
    exact runT_not p
/-! Texts, as the document reads them. -/
def numG : Nat → Int → List UInt8 → Int × Nat
  | 0, n, _ => (n, 0)
  | k + 1, n, [] => (n, 0)
  | k + 1, n, c :: r => if isDigit c = true then ((numG k (n * 10 + ((c.toNat : Int) - 48)) r).1, (numG k (n * 10 + ((c.toNat : Int) - 48)) r).2 + 1) else (n, 0)
def numB (l : List UInt8) : Int × Nat := numG 4 0 l
def rGo : Nat → List UInt8 → List Int
  | 0, _ => []
  | k + 1, l => if l = [] then [] else
    if ((l.drop (numB l).2).take 3 = thru) then
      rng (numB l).1 (numB ((l.drop (numB l).2).drop 3)).1 ++ (if ((l.drop (numB l).2).drop (3 + (numB ((l.drop (numB l).2).drop 3)).2)).take 2 = comma then rGo k (((l.drop (numB l).2).drop (3 + (numB ((l.drop (numB l).2).drop 3)).2)).drop 2) else [])
    else rng (numB l).1 (numB l).1 ++ (if (l.drop (numB l).2).take 2 = comma then rGo k ((l.drop (numB l).2).drop 2) else [])
theorem numG_digits : ∀ (d rest : List UInt8) (k : Nat) (n : Int), digitsOnly d = true → d.length ≤ k → (∀ c r, rest = c :: r → isDigit c = false) → numG k n (d ++ rest) = (valD n d, d.length)
  | [], [], 0, n, _, _, _ => rfl
  | [], c :: r, 0, n, _, _, _ => rfl
  | [], [], k + 1, n, _, _, _ => rfl
  | [], c :: r, k + 1, n, _, _, h => by
    rw [List.nil_append, numG, if_neg (by rw [h c r rfl]; decide)]; rfl
  | c :: d, rest, 0, n, _, hl, _ => by simp at hl
  | c :: d, rest, k + 1, n, hd, hl, h => by
    have hc : isDigit c = true ∧ digitsOnly d = true := by unfold digitsOnly at hd ⊢; simpa using hd
    rw [List.cons_append, numG, if_pos hc.1, numG_digits d rest k _ hc.2 (by simp at hl; omega) h]; rfl
theorem numB_itoa (a : Int) (rest : List UInt8) (h0 : 0 ≤ a) (h1 : a ≤ 9999) (h : ∀ c r, rest = c :: r → isDigit c = false) : numB (Lib.itoa a ++ rest) = (a, (Lib.itoa a).length) := by
  have e : Lib.itoa a = Lib.decDigits a.toNat := itoa_pos a (by omega)
  unfold numB
  rw [numG_digits _ rest 4 0 (by rw [e]; exact dec_digits _) (by rw [e]; exact dec_len 3 _ (by omega)) h, e, dec_val]
  congr 1; omega
/-- What stands behind a run. -/
def restT : List (Int × Int) → List UInt8
  | [] => []
  | q :: R => comma ++ textR (q :: R)
theorem textR_cons (q : Int × Int) (R : List (Int × Int)) : textR (q :: R) = runT q ++ restT R := by
  cases R with
  | nil => unfold textR restT; rw [List.map_cons, List.map_nil, Lib.join_one, List.append_nil]
  | cons p R =>
    unfold restT textR
    rw [List.map_cons, List.map_cons, Lib.join_cons]
    congr 1
    show _ = comma ++ Lib.join (runT p :: R.map runT) comma
    rw [Lib.join_cons]
    simp [Lib.joinTail]
theorem restT_digit (R : List (Int × Int)) : ∀ c r, restT R = c :: r → isDigit c = false := by
  intro c r h
  cases R with
  | nil => cases h
  | cons q R => unfold restT comma at h; cases h; rfl
theorem restT_take (R : List (Int × Int)) : (restT R).take 3 ≠ thru ∧ (R = [] → (restT R).take 2 ≠ comma) ∧ (R ≠ [] → (restT R).take 2 = comma ∧ (restT R).drop 2 = textR R) := by
  cases R with
  | nil => exact ⟨by decide, fun _ => by decide, fun h => absurd rfl h⟩
  | cons q R =>
    refine ⟨?_, (fun h => (by cases h)), (fun _ => ⟨rfl, rfl⟩)⟩
    unfold restT comma thru
    intro h
    simp at h
theorem rGo_text : ∀ (R : List (Int × Int)) (lo : Int) (k : Nat), -1 ≤ lo → vr lo R → R ≠ [] → (textR R).length ≤ k → rGo k (textR R) = exp R
  | [], _, _, _, _, h, _ => absurd rfl h
  | q :: R, lo, k, hlo, ⟨h1, h2, h3, h4⟩, _, hk => by
    obtain ⟨a, b⟩ := q
    dsimp only at h1 h2 h3 h4
    have hne : textR ((a, b) :: R) ≠ [] := by
      rw [textR_cons]; unfold runT
      intro e
      have := congrArg List.length e
      simp only [List.length_append, List.length_nil] at this
      have hn := itoa_ne a
      have hl : 0 < (Lib.itoa a).length := List.length_pos_iff.2 hn
      omega
    obtain ⟨k, rfl⟩ : ∃ m, k = m + 1 := ⟨k - 1, by
      have : 0 < (textR ((a, b) :: R)).length := List.length_pos_iff.2 hne
      omega⟩
    obtain ⟨t1, t2, t3⟩ := restT_take R
    have hdig := restT_digit R
    have hexp : exp ((a, b) :: R) = rng a b ++ exp R := rfl
    rw [rGo, if_neg hne, hexp]
    rw [textR_cons] at hk ⊢
    unfold runT at hk ⊢
    dsimp only at hk ⊢
    have hlast : ∀ (m : Nat), (restT R).length ≤ m + 1 → (if (restT R).take 2 = comma then rGo m ((restT R).drop 2) else []) = exp R := by
      intro m hm
      by_cases hR : R = []
      · rw [if_neg (t2 hR), hR]; rfl
      · obtain ⟨u1, u2⟩ := t3 hR
        rw [if_pos u1, u2]
        refine rGo_text R (b + 1) m (by omega) h4 hR ?_
        have : (restT R).length = 2 + (textR R).length := by
          cases R with
          | nil => exact absurd rfl hR
          | cons p R => unfold restT comma; simp; omega
        omega
    by_cases hab : a < b
    · rw [if_pos hab] at hk ⊢
      have e1 : Lib.itoa a ++ (thru ++ Lib.itoa b) ++ restT R = Lib.itoa a ++ (thru ++ (Lib.itoa b ++ restT R)) := by simp
      rw [e1] at hk ⊢
      have n1 : numB (Lib.itoa a ++ (thru ++ (Lib.itoa b ++ restT R))) = (a, (Lib.itoa a).length) := numB_itoa a _ (by omega) (by omega) (by intro c r h; unfold thru at h; cases h; rfl)
      have n2 : numB (Lib.itoa b ++ restT R) = (b, (Lib.itoa b).length) := numB_itoa b _ (by omega) h3 hdig
      have d1 : (Lib.itoa a ++ (thru ++ (Lib.itoa b ++ restT R))).drop (Lib.itoa a).length = thru ++ (Lib.itoa b ++ restT R) := List.drop_left
      have d2 : (thru ++ (Lib.itoa b ++ restT R)).drop 3 = Lib.itoa b ++ restT R := rfl
      have d3 : (thru ++ (Lib.itoa b ++ restT R)).drop (3 + (Lib.itoa b).length) = restT R := by rw [← List.drop_drop, d2, List.drop_left]
      rw [n1]
      dsimp only
      rw [d1, if_pos (by rfl), d2, n2]
      dsimp only
      rw [d3, hlast k (by simp only [List.length_append] at hk; omega)]
    · rw [if_neg hab] at hk ⊢
      have : a = b := by omega
      subst this
      rw [List.append_nil] at hk ⊢
      have n1 : numB (Lib.itoa a ++ restT R) = (a, (Lib.itoa a).length) := numB_itoa a _ (by omega) h3 hdig
      have d1 : (Lib.itoa a ++ restT R).drop (Lib.itoa a).length = restT R := List.drop_left
      rw [n1]
      dsimp only
      rw [d1, if_neg t1, hlast k (by simp only [List.length_append] at hk; omega)]
/-- The set of a text, as the document reads it. -/
def refP (s : List UInt8) : Option (List Int) := if s = nothing then some [] else if goodI (rGo s.length s) = true ∧ rGo s.length s ≠ [] ∧ textB (rGo s.length s) = s then some (rGo s.length s) else none
theorem runs_ne {l : List Int} (h : l ≠ []) : runs l ≠ [] := by
  intro e
  have := exp_runs l
  rw [e] at this
  exact h this.symm
theorem textB_ne {l : List Int} (h : l ≠ []) : textB l = textR (runs l) := if_neg h
theorem pPar_text {l : List Int} (hg : goodI l = true) : pPar (textB l) = some l := by
  by_cases h : l = []
  · subst h; rfl
  · rw [textB_ne h]
    unfold pPar
    rw [spl2_text _ (runs_ne h), pGo_map (runs l) (-2) (by decide) (by exact vr_runs hg)]
    rw [if_neg, Option.map_some, exp_runs]
    intro e
    have h2 := spl2_text _ (runs_ne h)
    rw [e] at h2
    cases hr : runs l with
    | nil => exact runs_ne h hr
    | cons q R =>
      rw [hr] at h2
      have h3 : runT q = nothing := by
        have : spl2 nothing = [nothing] := by decide
        rw [this] at h2
        simp at h2
        exact h2.1.symm
      unfold runT nothing at h3
      cases hi : Lib.itoa q.1 with
      | nil => exact itoa_ne _ hi
      | cons c r =>
        rw [hi] at h3
        have hc := itoa_mem q.1 c (by rw [hi]; simp)
        simp at h3
        rw [h3.1] at hc
        simp at hc
theorem refP_text {l : List Int} (hg : goodI l = true) : refP (textB l) = some l := by
  by_cases h : l = []
  · subst h; rfl
  · have hp := pPar_text hg
    have hn : textB l ≠ nothing := by
      intro e
      rw [e] at hp
      unfold pPar at hp
      rw [if_pos rfl] at hp
      cases hp; exact h rfl
    have hx : rGo (textB l).length (textB l) = l := by
      rw [textB_ne h, rGo_text (runs l) (-1) _ (by decide) (vr_runs hg) (runs_ne h) (Nat.le_refl _), exp_runs]
    unfold refP
    rw [if_neg hn, hx, if_pos ⟨hg, h, rfl⟩]
theorem pPar_some {s : List UInt8} {l : List Int} (h : pPar s = some l) : goodI l = true ∧ textB l = s := by
  unfold pPar at h
  split at h
  · rename_i e; cases h; exact ⟨rfl, e.symm⟩
  · obtain ⟨R, hR, rfl⟩ := Option.map_eq_some_iff.1 h
    obtain ⟨h1, h2⟩ := pGo_some _ _ _ hR
    have hj := spl2_join s
    rw [h1] at hj
    refine ⟨gI_exp R (-1) h2, ?_⟩
    have hne : exp R ≠ [] := by
      intro e
      have hr := runs_of h2
      rw [e] at hr
      obtain ⟨w, ws, e2⟩ := spl2_ne s
      rw [h1, ← hr] at e2
      cases e2
    rw [textB_ne hne, runs_of h2]; exact hj
theorem refP_some {s : List UInt8} {l : List Int} (h : refP s = some l) : goodI l = true ∧ textB l = s := by
  unfold refP at h
  split at h
  · rename_i e; cases h; exact ⟨rfl, e.symm⟩
  · split at h
    · rename_i hc; cases h; exact ⟨hc.1, hc.2.2⟩
    · cases h
/-- The program and the document read alike. -/
theorem pPar_same (s : List UInt8) : pPar s = refP s := by
  cases h : pPar s with
  | some l =>
    obtain ⟨h1, h2⟩ := pPar_some h
    rw [← h2, refP_text h1]
  | none =>
    cases h2 : refP s with
    | none => rfl
    | some l =>
      obtain ⟨h3, h4⟩ := refP_some h2
      rw [← h4, pPar_text h3] at h
      cases h
end Go.Proofs.YthkcdoneghcglaaDoor
