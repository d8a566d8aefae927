import Derived.Test.YthkcdoneghcglaaDoorScrA
set_option linter.unusedSimpArgs false
set_option linter.unusedVariables false
/- Plain laws of layer 41: sums, what became of chunks, texts. No program in sight. -/
namespace Go.Proofs.YthkcdoneghcglaaDoor
open Go
/-- A sum: chunk, tier, slot, sum. -/
structure Sm where
  c : Int
  t : Int
  s : Int
  h : Nat
theorem Sm.ext' {x y : Sm} (h1 : x.c = y.c) (h2 : x.t = y.t) (h3 : x.s = y.s) (h4 : x.h = y.h) : x = y := by
  cases x; cases y; simp only at h1 h2 h3 h4; subst h1; subst h2; subst h3; subst h4; rfl
def sm0 : Sm := ⟨0, 0, 0, 0⟩
/-- A place that can be. -/
def can (x : Sm) : Bool := decide (1 ≤ x.c ∧ x.c ≤ 1023 ∧ (x.t = 0 ∨ x.t = 1) ∧ 0 ≤ x.s ∧ x.s ≤ 255)
theorem can_iff (x : Sm) : can x = true ↔ 1 ≤ x.c ∧ x.c ≤ 1023 ∧ (x.t = 0 ∨ x.t = 1) ∧ 0 ≤ x.s ∧ x.s ≤ 255 := by unfold can; simp
def okAt (L : List Sm) (j : Nat) : Bool := can (L.getD j sm0) && (decide (j = 0) || decide ((L.getD (j - 1) sm0).c < (L.getD j sm0).c))
def goodL (L : List Sm) : Bool := (List.range L.length).all (okAt L)
theorem goodL_true {L : List Sm} (h : ∀ j, j < L.length → okAt L j = true) : goodL L = true := by
  unfold goodL; rw [List.all_eq_true]; intro j hj; exact h j (List.mem_range.1 hj)
theorem goodL_false {L : List Sm} {j : Nat} (hj : j < L.length) (h : okAt L j = false) : goodL L = false := by
  cases e : goodL L with
  | false => rfl
  | true =>
    unfold goodL at e
    rw [List.all_eq_true] at e
    have := e j (List.mem_range.2 hj); rw [h] at this; cases this
def goodF (lo : Int) : List Sm → Bool
  | [] => true
  | x :: r => can x && decide (lo < x.c) && goodF x.c r
theorem goodF_iff : ∀ (L : List Sm) (lo : Int), goodF lo L = true ↔ ∀ j, j < L.length → can (L.getD j sm0) = true ∧ (if j = 0 then lo else (L.getD (j - 1) sm0).c) < (L.getD j sm0).c
  | [], lo => by simp [goodF]
  | x :: r, lo => by
    rw [goodF, Bool.and_eq_true, Bool.and_eq_true, goodF_iff r x.c, decide_eq_true_eq]
    constructor
    · rintro ⟨⟨h1, h2⟩, h3⟩ j hj
      cases j with
      | zero => exact ⟨h1, h2⟩
      | succ j =>
        have := h3 j (by simp at hj; omega)
        refine ⟨by simpa using this.1, ?_⟩
        have h4 := this.2
        cases j with
        | zero => simpa using h4
        | succ j => simpa using h4
    · intro h
      have h0 := h 0 (by simp)
      refine ⟨⟨by simpa using h0.1, by simpa using h0.2⟩, fun j hj => ?_⟩
      have := h (j + 1) (by simp; omega)
      refine ⟨by simpa using this.1, ?_⟩
      have h4 := this.2
      cases j with
      | zero => simpa using h4
      | succ j => simpa using h4
theorem goodL_F (L : List Sm) : goodL L = goodF 0 L := by
  have key : goodL L = true ↔ goodF 0 L = true := by
    rw [goodF_iff]
    unfold goodL
    rw [List.all_eq_true]
    constructor
    · intro h j hj
      have := h j (List.mem_range.2 hj)
      unfold okAt at this
      simp only [Bool.and_eq_true, Bool.or_eq_true, decide_eq_true_eq] at this
      refine ⟨this.1, ?_⟩
      have hc := (can_iff _).1 this.1
      split
      · omega
      · rcases this.2 with q | q
        · omega
        · exact q
    · intro h j hj
      have := h j (List.mem_range.1 hj)
      unfold okAt
      simp only [Bool.and_eq_true, Bool.or_eq_true, decide_eq_true_eq]
      refine ⟨this.1, ?_⟩
      by_cases h0 : j = 0
      · exact .inl h0
      · right; have := this.2; rw [if_neg h0] at this; exact this
  cases h1 : goodL L <;> cases h2 : goodF 0 L <;> simp_all
theorem goodF_can : ∀ (L : List Sm) (lo : Int), goodF lo L = true → ∀ x ∈ L, can x = true
  | [], _, _, x, hx => by cases hx
  | y :: r, lo, h, x, hx => by
    rw [goodF, Bool.and_eq_true, Bool.and_eq_true] at h
    rcases List.mem_cons.1 hx with rfl | hx
    · exact h.1.1
    · exact goodF_can r y.c h.2 x hx
theorem good_can {L : List Sm} (h : goodL L = true) : ∀ x ∈ L, can x = true := by rw [goodL_F] at h; exact goodF_can L 0 h
/-- What became of a chunk that was and is there. -/
def kd (x y : Sm) : Int := if x.h = y.h then (if x.t = y.t ∧ x.s = y.s then 0 else 3) else 4
theorem kd_comm (x y : Sm) : kd x y = kd y x := by
  unfold kd
  by_cases h : x.h = y.h
  · rw [if_pos h, if_pos h.symm]
    by_cases h2 : x.t = y.t ∧ x.s = y.s
    · rw [if_pos h2, if_pos ⟨h2.1.symm, h2.2.symm⟩]
    · rw [if_neg h2, if_neg (fun q => h2 ⟨q.1.symm, q.2.symm⟩)]
  · rw [if_neg h, if_neg (fun q => h q.symm)]
theorem kd_self (x : Sm) : kd x x = 0 := by unfold kd; rw [if_pos rfl, if_pos ⟨rfl, rfl⟩]
theorem kd_cases (x y : Sm) : kd x y = 0 ∨ kd x y = 3 ∨ kd x y = 4 := by
  unfold kd; split
  · split
    · exact .inl rfl
    · exact .inr (.inl rfl)
  · exact .inr (.inr rfl)
/-- A find, if there is one. -/
def hit (c k : Int) (l : List (Int × Int)) : List (Int × Int) := if k = 0 then l else (c, k) :: l
/-- What became of chunks, as the program merges the lists. -/
def ag : List Sm → List Sm → List (Int × Int)
  | [], [] => []
  | x :: a, [] => (x.c, 1) :: ag a []
  | [], y :: b => (y.c, 2) :: ag [] b
  | x :: a, y :: b =>
    if x.c < y.c then (x.c, 1) :: ag a (y :: b)
    else if y.c < x.c then (y.c, 2) :: ag (x :: a) b
    else hit y.c (kd x y) (ag a b)
termination_by a b => a.length + b.length
theorem ag_nil : ag [] [] = [] := by rw [ag]
theorem ag_l (x : Sm) (a : List Sm) : ag (x :: a) [] = (x.c, 1) :: ag a [] := by rw [ag]
theorem ag_r (y : Sm) (b : List Sm) : ag [] (y :: b) = (y.c, 2) :: ag [] b := by rw [ag]
theorem ag_lt {x y : Sm} (a b : List Sm) (h : x.c < y.c) : ag (x :: a) (y :: b) = (x.c, 1) :: ag a (y :: b) := by rw [ag, if_pos h]
theorem ag_gt {x y : Sm} (a b : List Sm) (h : y.c < x.c) : ag (x :: a) (y :: b) = (y.c, 2) :: ag (x :: a) b := by rw [ag, if_neg (by omega), if_pos h]
theorem ag_eq {x y : Sm} (a b : List Sm) (h : x.c = y.c) : ag (x :: a) (y :: b) = hit y.c (kd x y) (ag a b) := by rw [ag, if_neg (by omega), if_neg (by omega)]
/-- The other way round. -/
def sw (p : Int × Int) : Int × Int := (p.1, if p.2 = 1 then 2 else if p.2 = 2 then 1 else p.2)
theorem hit_sw (c k : Int) (l : List (Int × Int)) (h : k = 0 ∨ k = 3 ∨ k = 4) : (hit c k l).map sw = hit c k (l.map sw) := by
  unfold hit
  rcases h with rfl | rfl | rfl
  · rfl
  · rfl
  · rfl
theorem ag_sw : ∀ (n : Nat) (a b : List Sm), a.length + b.length ≤ n → ag b a = (ag a b).map sw
  | _, [], [], _ => by rw [ag_nil]; rfl
  | 0, x :: a, b, h => by simp at h
  | 0, [], y :: b, h => by simp at h
  | n + 1, x :: a, [], h => by rw [ag_l, ag_r, ag_sw n a [] (by simp at h ⊢; omega)]; rfl
  | n + 1, [], y :: b, h => by rw [ag_l, ag_r, ag_sw n [] b (by simp at h ⊢; omega)]; rfl
  | n + 1, x :: a, y :: b, h => by
    simp only [List.length_cons] at h
    by_cases h1 : x.c < y.c
    · rw [ag_lt a b h1, ag_gt b a h1, ag_sw n a (y :: b) (by simp; omega)]; rfl
    · by_cases h2 : y.c < x.c
      · rw [ag_gt a b h2, ag_lt b a h2, ag_sw n (x :: a) b (by simp; omega)]; rfl
      · have e : x.c = y.c := by omega
        rw [ag_eq a b e, ag_eq b a e.symm, hit_sw _ _ _ (kd_cases x y), ← ag_sw n a b (by omega), kd_comm y x, e]
theorem ag_self : ∀ a : List Sm, ag a a = []
  | [] => ag_nil
  | x :: a => by rw [ag_eq a a rfl, kd_self, ag_self a]; rfl
/-- The sum of a chunk, if there is one. -/
def ofL (L : List Sm) (c : Int) : Option Sm := L.find? fun x => decide (x.c = c)
/-- What became of chunk c. -/
def kat (a b : List Sm) (c : Int) : Int :=
  match ofL a c, ofL b c with
  | some _, none => 1
  | none, some _ => 2
  | some x, some y => kd x y
  | none, none => 0
/-- What became of n chunks from c on. -/
def finds (a b : List Sm) : Int → Nat → List (Int × Int)
  | _, 0 => []
  | c, n + 1 => hit c (kat a b c) (finds a b (c + 1) n)
theorem finds_congr {a b a' b' : List Sm} : ∀ (n : Nat) (c : Int), (∀ d, c ≤ d → kat a b d = kat a' b' d) → finds a b c n = finds a' b' c n
  | 0, _, _ => rfl
  | n + 1, c, h => by rw [finds, finds, h c (by omega), finds_congr n (c + 1) fun d hd => h d (by omega)]
def srt (lo : Int) : List Sm → Prop
  | [] => True
  | x :: r => lo < x.c ∧ x.c ≤ 1023 ∧ srt x.c r
theorem srt_of : ∀ (L : List Sm) (lo : Int), goodF lo L = true → srt lo L
  | [], _, _ => trivial
  | x :: r, lo, h => by
    rw [goodF, Bool.and_eq_true, Bool.and_eq_true, decide_eq_true_eq, can_iff] at h
    exact ⟨h.1.2, h.1.1.2.1, srt_of r x.c h.2⟩
theorem srt_none : ∀ (L : List Sm) (lo c : Int), srt lo L → c ≤ lo → ofL L c = none
  | [], _, _, _, _ => rfl
  | x :: r, lo, c, h, hc => by
    obtain ⟨h1, _, h3⟩ := h
    unfold ofL
    rw [List.find?_cons_of_neg (by simp; omega)]
    exact srt_none r x.c c h3 (by omega)
theorem srt_lift {L : List Sm} {lo : Int} (h : srt lo L) (hd : ∀ x r, L = x :: r → x.c ≠ lo + 1) : srt (lo + 1) L := by
  cases L with
  | nil => trivial
  | cons x r => exact ⟨by have := h.1; have := hd x r rfl; omega, h.2⟩
theorem of_head (x : Sm) (r : List Sm) : ofL (x :: r) x.c = some x := by unfold ofL; rw [List.find?_cons_of_pos (by simp)]
theorem of_tail (x : Sm) (r : List Sm) (c : Int) (h : x.c ≠ c) : ofL (x :: r) c = ofL r c := by unfold ofL; rw [List.find?_cons_of_neg (by simpa using h)]
theorem ag_finds : ∀ (n : Nat) (lo : Int) (a b : List Sm), lo + n = 1023 → srt lo a → srt lo b → ag a b = finds a b (lo + 1) n := by
  intro n
  induction n with
  | zero =>
    intro lo a b hl ha hb
    have e : ∀ L : List Sm, srt lo L → L = [] := by
      intro L hL
      cases L with
      | nil => rfl
      | cons x r => have := hL.1; have := hL.2.1; omega
    rw [e a ha, e b hb, ag_nil]; rfl
  | succ n ih =>
    intro lo a b hl ha hb
    rw [finds]
    have hl' : lo + 1 + (n : Int) = 1023 := by omega
    by_cases h1 : ∃ x r, a = x :: r ∧ x.c = lo + 1
    · obtain ⟨x, a', rfl, hx⟩ := h1
      have ha' : srt (lo + 1) a' := by rw [← hx]; exact ha.2.2
      by_cases h2 : ∃ y r, b = y :: r ∧ y.c = lo + 1
      · obtain ⟨y, b', rfl, hy⟩ := h2
        have hb' : srt (lo + 1) b' := by rw [← hy]; exact hb.2.2
        have hk : kat (x :: a') (y :: b') (lo + 1) = kd x y := by
          unfold kat; rw [← hx, of_head, hx, ← hy, of_head]
        rw [ag_eq a' b' (by omega), hk, hy, ih (lo + 1) a' b' hl' ha' hb']
        congr 1
        refine finds_congr n _ fun d hd => ?_
        unfold kat; rw [of_tail x a' d (by omega), of_tail y b' d (by omega)]
      · have hb' : srt (lo + 1) b := srt_lift hb fun y r e q => h2 ⟨y, r, e, q⟩
        have hk : kat (x :: a') b (lo + 1) = 1 := by
          unfold kat; rw [srt_none b (lo + 1) (lo + 1) hb' (by omega), ← hx, of_head]
        have hag : ag (x :: a') b = (x.c, 1) :: ag a' b := by
          cases b with
          | nil => exact ag_l x a'
          | cons y b => exact ag_lt a' b (by have := hb'.1; omega)
        rw [hag, hk, hx, ih (lo + 1) a' b hl' ha' hb']
        unfold hit
        rw [if_neg (by decide)]
        congr 1
        refine finds_congr n _ fun d hd => ?_
        unfold kat; rw [of_tail x a' d (by omega)]
    · have ha' : srt (lo + 1) a := srt_lift ha fun y r e q => h1 ⟨y, r, e, q⟩
      by_cases h2 : ∃ y r, b = y :: r ∧ y.c = lo + 1
      · obtain ⟨y, b', rfl, hy⟩ := h2
        have hb' : srt (lo + 1) b' := by rw [← hy]; exact hb.2.2
        have hk : kat a (y :: b') (lo + 1) = 2 := by
          unfold kat; rw [srt_none a (lo + 1) (lo + 1) ha' (by omega), ← hy, of_head]
        have hag : ag a (y :: b') = (y.c, 2) :: ag a b' := by
          cases a with
          | nil => exact ag_r y b'
          | cons x a => exact ag_gt a b' (by have := ha'.1; omega)
        rw [hag, hk, hy, ih (lo + 1) a b' hl' ha' hb']
        unfold hit
        rw [if_neg (by decide)]
        congr 1
        refine finds_congr n _ fun d hd => ?_
        unfold kat; rw [of_tail y b' d (by omega)]
      · have hb' : srt (lo + 1) b := srt_lift hb fun y r e q => h2 ⟨y, r, e, q⟩
        have hk : kat a b (lo + 1) = 0 := by
          unfold kat; rw [srt_none a (lo + 1) (lo + 1) ha' (by omega), srt_none b (lo + 1) (lo + 1) hb' (by omega)]
        rw [hk, ih (lo + 1) a b hl' ha' hb']; rfl
/-- The two answers are one. -/
theorem ag_all (a b : List Sm) (ha : goodL a = true) (hb : goodL b = true) : ag a b = finds a b 1 1023 := by
  rw [goodL_F] at ha hb
  exact ag_finds 1023 0 a b rfl (srt_of a 0 ha) (srt_of b 0 hb)
/-! Texts. -/
def lineT (x : Sm) : List UInt8 := Lib.itoa x.c ++ 32 :: (Lib.itoa x.t ++ 32 :: (Lib.itoa x.s ++ 32 :: hexL x.h))
def textL (L : List Sm) : List UInt8 := L.flatMap fun x => lineT x ++ [10]
/-- A line's sum, as the program reads it. -/
def pLine (l : List UInt8) : Option Sm :=
  match spl l with
  | [a, b, c, d] => match pNum a, pNum b, pNum c, hexV d with
    | some x, some y, some z, some h => some ⟨x, y, z, h⟩
    | _, _, _, _ => none
  | _ => none
/-- A line's sum, as the document reads it. -/
def rLine (l : List UInt8) : Option Sm :=
  match spl l with
  | [a, b, c, d] => if (rNum a).2 = true ∧ (rNum b).2 = true ∧ (rNum c).2 = true then (match hexV d with
    | some h => some ⟨(rNum a).1, (rNum b).1, (rNum c).1, h⟩
    | none => none) else none
  | _ => none
/-- The sums of lines. -/
def pars (f : List UInt8 → Option Sm) : Nat → List UInt8 → Option (List Sm)
  | 0, l => if l = [] then some [] else none
  | k + 1, l => if l = [] then some [] else match nl l with
    | none => none
    | some (a, r) => match f a with
      | none => none
      | some x => (pars f k r).map (x :: ·)
def fin (o : Option (List Sm)) : Option (List Sm) :=
  match o with
  | none => none
  | some L => if goodL L = true then some L else none
def parseS (l : List UInt8) : Option (List Sm) := fin (pars pLine l.length l)
def refS (l : List UInt8) : Option (List Sm) := fin (pars rLine l.length l)
theorem pLine_of_r {l : List UInt8} {x : Sm} (h : rLine l = some x) : pLine l = some x := by
  unfold rLine at h
  unfold pLine
  split at h
  · rename_i a b c d e
    try rw [e]
    try dsimp only
    split at h
    · rename_i hc
      have ha := pNum_of_rNum (p := a) (n := (rNum a).1) (Prod.ext rfl hc.1)
      have hb := pNum_of_rNum (p := b) (n := (rNum b).1) (Prod.ext rfl hc.2.1)
      have hc' := pNum_of_rNum (p := c) (n := (rNum c).1) (Prod.ext rfl hc.2.2)
      rw [ha.1, hb.1, hc'.1]
      cases hd : hexV d with
      | none => rw [hd] at h; cases h
      | some w => rw [hd] at h; exact h
    · cases h
  · cases h
theorem rLine_of_p {l : List UInt8} {x : Sm} (h : pLine l = some x) (hx : can x = true) : rLine l = some x := by
  unfold pLine at h
  unfold rLine
  rw [can_iff] at hx
  split at h
  · rename_i a b c d e
    try rw [e]
    try dsimp only
    split at h
    · rename_i n1 n2 n3 hh h1 h2 h3 h4
      cases h
      dsimp only at hx
      have q1 := rNum_of_pNum h1 (by omega) (by omega)
      have q2 := rNum_of_pNum h2 (by omega) (by omega)
      have q3 := rNum_of_pNum h3 (by omega) (by omega)
      rw [q1, q2, q3, h4]
      rfl
    · cases h
  · cases h
theorem pars_mono {f g : List UInt8 → Option Sm} {P : Sm → Prop} (h : ∀ l x, f l = some x → P x → g l = some x) : ∀ (k : Nat) (l : List UInt8) (L : List Sm), pars f k l = some L → (∀ x ∈ L, P x) → pars g k l = some L
  | 0, l, L, e, _ => by rw [pars] at e ⊢; exact e
  | k + 1, l, L, e, hP => by
    rw [pars] at e ⊢
    split
    · rename_i h0; rw [if_pos h0] at e; exact e
    · rename_i h0
      rw [if_neg h0] at e
      split at e
      · cases e
      · rename_i a r hn
        split at e
        · cases e
        · rename_i x hx
          obtain ⟨L', hL', rfl⟩ := Option.map_eq_some_iff.1 e
          try dsimp only
          rw [h a x hx (hP x (by simp)), pars_mono h k r L' hL' fun y hy => hP y (by simp [hy])]
          rfl
/-- The program and the document read alike. -/
theorem parse_same (l : List UInt8) : parseS l = refS l := by
  unfold parseS refS
  cases e : pars rLine l.length l with
  | some L => rw [pars_mono (P := fun _ => True) (fun l x h _ => pLine_of_r h) _ _ _ e (fun _ _ => trivial)]
  | none =>
    cases e2 : pars pLine l.length l with
    | none => rfl
    | some L =>
      unfold fin
      dsimp only
      rw [if_neg]
      intro hg
      have := pars_mono (P := fun x => can x = true) (fun l x h hx => rLine_of_p h hx) _ _ _ e2 (good_can hg)
      rw [e] at this; cases this
theorem itoa_nb (n : Int) : ∀ c ∈ Lib.itoa n, c ≠ 32 := by
  intro c hc e; subst e; have := itoa_mem n _ hc; simp at this
theorem itoa_nn (n : Int) : ∀ c ∈ Lib.itoa n, c ≠ 10 := by
  intro c hc e; subst e; have := itoa_mem n _ hc; simp at this
theorem hexL_nb (h : Nat) : ∀ c ∈ hexL h, c ≠ 32 := by
  intro c hc e; subst e; have := (hexL_mem h _ hc).2; simp at this
theorem hexL_nn (h : Nat) : ∀ c ∈ hexL h, c ≠ 10 := by
  intro c hc e; subst e; have := (hexL_mem h _ hc).1; simp at this
theorem lineT_nn (x : Sm) : ∀ c ∈ lineT x, c ≠ 10 := by
  intro c hc
  unfold lineT at hc
  simp only [List.mem_append, List.mem_cons] at hc
  rcases hc with h | rfl | h | rfl | h | rfl | h
  · exact itoa_nn _ c h
  · decide
  · exact itoa_nn _ c h
  · decide
  · exact itoa_nn _ c h
  · decide
  · exact hexL_nn _ c h
theorem lineT_spl (x : Sm) : spl (lineT x) = [Lib.itoa x.c, Lib.itoa x.t, Lib.itoa x.s, hexL x.h] := by
  unfold lineT
  rw [spl_app _ _ (itoa_nb _), spl_app _ _ (itoa_nb _), spl_app _ _ (itoa_nb _), spl_word _ (hexL_nb _)]
theorem lineT_parse (x : Sm) (h1 : I64 x.c) (h2 : I64 x.t) (h3 : I64 x.s) (h4 : x.h < 4294967296) : pLine (lineT x) = some x := by
  unfold pLine
  rw [lineT_spl]
  dsimp only
  rw [pNum_itoa _ h1, pNum_itoa _ h2, pNum_itoa _ h3, hexV_L _ h4]
theorem pars_text : ∀ (L : List Sm) (k : Nat), (textL L).length ≤ k → (∀ x ∈ L, can x = true ∧ x.h < 4294967296) → pars pLine k (textL L) = some L
  | [], 0, _, _ => rfl
  | [], k + 1, _, _ => rfl
  | x :: L, k, hk, hx => by
    have e : textL (x :: L) = lineT x ++ 10 :: textL L := by unfold textL; simp
    rw [e] at hk ⊢
    simp only [List.length_append, List.length_cons] at hk
    obtain ⟨k, rfl⟩ : ∃ m, k = m + 1 := ⟨k - 1, by omega⟩
    rw [pars, if_neg (by simp), nl_app _ _ (lineT_nn x)]
    dsimp only
    have hc := (can_iff x).1 (hx x (by simp)).1
    rw [lineT_parse x (by unfold I64; omega) (by unfold I64; omega) (by unfold I64; omega) (hx x (by simp)).2]
    dsimp only
    rw [pars_text L k (by omega) fun y hy => hx y (by simp [hy])]; rfl
/-- What was told is read as it was. -/
theorem parse_text (L : List Sm) (hg : goodL L = true) (hh : ∀ x ∈ L, x.h < 4294967296) : parseS (textL L) = some L := by
  unfold parseS
  rw [pars_text L _ (Nat.le_refl _) fun x hx => ⟨good_can hg x hx, hh x hx⟩]
  unfold fin; dsimp only; rw [if_pos hg]
end Go.Proofs.YthkcdoneghcglaaDoor
