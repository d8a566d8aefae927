import Derived.Test.YtlcepoagpocadaaGreatDoorWtO
import Derived.Test.YtlcepoagpocadaaGreatDoorMgTb
set_option linter.unusedSimpArgs false
set_option linter.unusedVariables false
set_option maxRecDepth 100000
/- Where the power goes: in plain words. -/
namespace Go.Proofs.YtlcepoagpocadaaGreatDoor
open Go Go.RowKit
theorem run_inv {I : Nat → WS → Prop} {s0 : WS} {l : List Ev} (h0 : I 0 s0) (hs : ∀ (j : Nat) (t : WS) (ev : Ev) (u : WS), l[j]? = some ev → I j t → GoR t ev (some u) → I (j + 1) u) :
    ∀ (j : Nat) (t : WS), j ≤ l.length → RunR s0 (l.take j) t → I j t := by
  intro j
  induction j with
  | zero => intro t _ h; obtain rfl : t = s0 := h; exact h0
  | succ j ih =>
    intro t hj h
    have hjl : j < l.length := by omega
    rw [List.take_succ_eq_append_getElem hjl] at h
    obtain ⟨u, h1, h2⟩ := h.split
    exact hs j u _ t (List.getElem?_eq_getElem hjl) (ih u (by omega) h1) h2
def cuO : OW := ⟨0, [3, 8], []⟩
def flO : OW := ⟨9, [], []⟩
def wrO (b : UInt8) (i : Nat) : OW := ⟨7, [3, (i : Int)], [secT b]⟩
def chO (b : UInt8) (i : Nat) : OW := if b.toNat % 4 = 0 then ⟨8, [3, (i : Int), 1], []⟩ else wrO b i
section
variable (o r : Nat → UInt8) (n : Nat)
def oldL : List Ev := (List.range n).map fun i => evZ (wrO (o i) i) 1
def newL (m : Nat) : List Ev := (List.range m).map fun i => evZ (chO (r i) i) 2
def evsL : List Ev := evZ cuO 1 :: (oldL o n ++ (evZ flO 2 :: newL r n))
def valW (i : Nat) : Nat → Option (List UInt8) := fun y => if y < i then some (secT (o y)) else none
/-- What stands behind so many events. -/
def StW (j : Nat) (t : WS) : Prop :=
  (j = 0 ∧ t.now = emptyS 1 ∧ t.gen = 1) ∨ (1 ≤ j ∧ j ≤ n + 1 ∧ One t.now 3 8 (valW o (j - 1)) ∧ t.gen = 1) ∨
  (n + 2 ≤ j ∧ j ≤ 2 * n + 2 ∧ (∃ v, One t.now 3 8 v) ∧ t.gen = 2 ∧ One t.past 3 8 (valW o n) ∧ t.since = flO :: (List.range (j - n - 2)).map fun i => chO (r i) i)
variable {o r n}
theorem valW_succ (i : Nat) : upd (valW o i) i (some (secT (o i))) = valW o (i + 1) := by
  funext y
  unfold upd valW
  by_cases h : y = i
  · subst h; rw [if_pos rfl, if_pos (by omega)]
  · rw [if_neg h]
    by_cases q : y < i
    · rw [if_pos q, if_pos (by omega)]
    · rw [if_neg q, if_neg (by omega)]
theorem evs_len : (evsL o r n).length = 2 * n + 2 := by unfold evsL oldL newL; simp; omega
theorem evs_get {j : Nat} {ev : Ev} (h : (evsL o r n)[j]? = some ev) : (j = 0 ∧ ev = evZ cuO 1) ∨ (1 ≤ j ∧ j ≤ n ∧ ev = evZ (wrO (o (j - 1)) (j - 1)) 1) ∨ (j = n + 1 ∧ ev = evZ flO 2) ∨ (n + 2 ≤ j ∧ j < 2 * n + 2 ∧ ev = evZ (chO (r (j - n - 2)) (j - n - 2)) 2) := by
  have hl := (List.getElem?_eq_some_iff.1 h).1
  rw [evs_len] at hl
  unfold evsL at h
  rcases j with _ | j
  · exact .inl ⟨rfl, by simpa using h.symm⟩
  · rw [List.getElem?_cons_succ] at h
    have ho : (oldL o n).length = n := by unfold oldL; simp
    by_cases q : j < n
    · rw [List.getElem?_append_left (by omega)] at h
      unfold oldL at h
      rw [List.getElem?_map, List.getElem?_range q] at h
      exact .inr (.inl ⟨by omega, by omega, by simpa using h.symm⟩)
    · rw [List.getElem?_append_right (by omega), ho] at h
      by_cases q2 : j = n
      · subst q2
        rw [Nat.sub_self] at h
        exact .inr (.inr (.inl ⟨rfl, by simpa using h.symm⟩))
      · obtain ⟨i, hi⟩ : ∃ i, j - n = i + 1 := ⟨j - n - 1, by omega⟩
        rw [hi, List.getElem?_cons_succ] at h
        unfold newL at h
        rw [List.getElem?_map, List.getElem?_range (by omega)] at h
        refine .inr (.inr (.inr ⟨by omega, by omega, ?_⟩))
        have hi2 : j + 1 - n - 2 = i := by omega
        rw [hi2]
        simpa using h.symm
theorem chO_go {s : WS} {v : Nat → Option (List UInt8)} (h : One s.now 3 8 v) (hg : s.gen = 2) {b : UInt8} {i : Nat} (hi : i < 8) : ¬ GoR s (evZ (chO b i) 2) none ∧ ∀ u, GoR s (evZ (chO b i) 2) (some u) → (∃ v, One u.now 3 8 v) ∧ u.gen = 2 ∧ u.past = s.past ∧ u.since = s.since ++ [chO b i] := by
  unfold chO
  split
  · obtain ⟨h1, h2⟩ := go_discard (gen := 2) h (x := i) (by omega) (.inl hg.symm)
    refine ⟨h1, fun u hu => ?_⟩
    obtain ⟨a, b, c⟩ := h2 u hu
    rcases c with ⟨_, c1, c2⟩ | ⟨c, _⟩
    · exact ⟨⟨_, a⟩, b, c1, c2⟩
    · exact absurd hg.symm c
  · obtain ⟨h1, h2⟩ := go_write (gen := 2) h (x := i) (by omega) (secT_len b) (.inl hg.symm)
    refine ⟨h1, fun u hu => ?_⟩
    obtain ⟨a, b, c⟩ := h2 u hu
    rcases c with ⟨_, c1, c2⟩ | ⟨c, _⟩
    · exact ⟨⟨_, a⟩, b, c1, c2⟩
    · exact absurd hg.symm c
theorem evs_step (hn : n ≤ 8) {j : Nat} {t : WS} {ev : Ev} (h : (evsL o r n)[j]? = some ev) (hI : StW o r n j t) : ¬ GoR t ev none ∧ ∀ u, GoR t ev (some u) → StW o r n (j + 1) u := by
  rcases evs_get h with ⟨e, rfl⟩ | ⟨e1, e2, rfl⟩ | ⟨e, rfl⟩ | ⟨e1, e2, rfl⟩
  · rcases hI with ⟨_, q1, q2⟩ | ⟨q, _⟩ | ⟨q, _⟩
    · obtain ⟨h1, h2⟩ := go_create (s := t) (id := 3) (size := 8) (gen := 1) (by rw [q1]; rfl) (by rw [q1]; rfl) (by decide) (by decide) (.inl q2.symm)
      refine ⟨h1, fun u hu => .inr (.inl ⟨by omega, by omega, ?_, (h2 u hu).2.1⟩)⟩
      have := (h2 u hu).1
      subst e
      have e3 : valW o (0 + 1 - 1) = fun _ => none := by funext y; unfold valW; rw [if_neg (by omega)]
      rw [e3]
      exact this
    · omega
    · omega
  · rcases hI with ⟨q, _⟩ | ⟨_, _, q1, q2⟩ | ⟨q, _⟩
    · omega
    · obtain ⟨h1, h2⟩ := go_write (gen := 1) q1 (x := j - 1) (by omega) (secT_len (o (j - 1))) (.inl q2.symm)
      refine ⟨h1, fun u hu => .inr (.inl ⟨by omega, by omega, ?_, (h2 u hu).2.1⟩)⟩
      have := (h2 u hu).1
      rw [valW_succ] at this
      rw [show j + 1 - 1 = j - 1 + 1 by omega]
      exact this
    · omega
  · rcases hI with ⟨q, _⟩ | ⟨_, _, q1, q2⟩ | ⟨q, _⟩
    · omega
    · obtain ⟨h1, h2⟩ := go_flush (gen := 2) q1 (.inr (by rw [q2]; rfl))
      refine ⟨h1, fun u hu => .inr (.inr ?_)⟩
      obtain ⟨a, b, c⟩ := h2 u hu
      rcases c with ⟨c, _⟩ | ⟨_, ⟨f, hI⟩, c⟩
      · rw [q2] at c; cases c
      · subst e
        refine ⟨by omega, by omega, ⟨_, a⟩, b, ?_, ?_⟩
        · have := q1.iso hI
          rw [show n + 1 - 1 = n by omega] at this
          exact this
        · rw [c, show n + 1 + 1 - n - 2 = 0 by omega]
          rfl
    · omega
  · rcases hI with ⟨q, _⟩ | ⟨_, q, _⟩ | ⟨_, _, ⟨v, q1⟩, q2, q3, q4⟩
    · omega
    · omega
    · obtain ⟨h1, h2⟩ := chO_go q1 q2 (b := r (j - n - 2)) (i := j - n - 2) (by omega)
      refine ⟨h1, fun u hu => .inr (.inr ?_)⟩
      obtain ⟨a, b, c, d⟩ := h2 u hu
      refine ⟨by omega, by omega, a, b, by rw [c]; exact q3, ?_⟩
      rw [d, q4, show j + 1 - n - 2 = (j - n - 2) + 1 by omega, List.range_succ, List.map_append]
      rfl
/-- What stands behind all of them. -/
structure CrS (o r : Nat → UInt8) (n : Nat) (t : WS) : Prop where
  gen : t.gen = 2
  past : One t.past 3 8 (valW o n)
  since : t.since = flO :: (List.range n).map fun i => chO (r i) i
theorem evs_take (hn : n ≤ 8) {P : MS} {e : Ev} {j : Nat} {t : WS} {ev : Ev} (hr : RunR ⟨emptyS 1, P, 1, []⟩ ((evsL o r n ++ [e]).take j) t) (hj : (evsL o r n ++ [e])[j]? = some ev) :
    (j = 2 * n + 2 ∧ ev = e ∧ CrS o r n t) ∨ (j < 2 * n + 2 ∧ (evsL o r n)[j]? = some ev ∧ ¬ GoR t ev none) := by
  have hl := (List.getElem?_eq_some_iff.1 hj).1
  rw [List.length_append, evs_len] at hl
  have hl : j < 2 * n + 3 := hl
  have hrun := run_inv (I := StW o r n) (s0 := ⟨emptyS 1, P, 1, []⟩) (l := evsL o r n) (.inl ⟨rfl, rfl, rfl⟩) (fun j t ev u a b c => (evs_step hn a b).2 u c)
  by_cases q : j < 2 * n + 2
  · rw [List.take_append_of_le_length (by rw [evs_len]; omega)] at hr
    rw [List.getElem?_append_left (by rw [evs_len]; omega)] at hj
    exact .inr ⟨q, hj, (evs_step hn hj (hrun j t (by rw [evs_len]; omega) hr)).1⟩
  · obtain rfl : j = 2 * n + 2 := by omega
    rw [List.take_append_of_le_length (by rw [evs_len]; omega)] at hr
    rw [List.getElem?_append_right (by rw [evs_len]; omega), evs_len, Nat.sub_self] at hj
    have he : e = ev := by simpa using hj
    refine .inl ⟨rfl, he.symm, ?_⟩
    rcases hrun _ t (by rw [evs_len]; omega) hr with ⟨q, _⟩ | ⟨_, q, _⟩ | ⟨_, _, _, q2, q3, q4⟩
    · omega
    · omega
    · exact ⟨q2, q3, by rw [q4, show 2 * n + 2 - n - 2 = n by omega]⟩
theorem evs_full (hn : n ≤ 8) {P : MS} {e : Ev} {t : WS} (hr : RunR ⟨emptyS 1, P, 1, []⟩ (evsL o r n ++ [e]) t) : ∃ u, CrS o r n u ∧ GoR u e (some t) := by
  obtain ⟨u, h1, h2⟩ := hr.split
  have h3 := evs_take (o := o) (r := r) hn (e := e) (j := 2 * n + 2) (ev := e) (t := u) (P := P) (by
    rw [List.take_append_of_le_length (by rw [evs_len]; omega), List.take_of_length_le (by rw [evs_len]; omega)]
    exact h1) (by rw [List.getElem?_append_right (by rw [evs_len]; omega), evs_len, Nat.sub_self]; rfl)
  rcases h3 with ⟨_, _, h3⟩ | ⟨h3, _⟩
  · exact ⟨u, h3, h2⟩
  · omega
end
end Go.Proofs.YtlcepoagpocadaaGreatDoor
set_option maxRecDepth 100000
/- What a loss of power may tell. -/
namespace Go.Proofs.YtlcepoagpocadaaGreatDoor
open Go Go.RowKit
def txtB (b : Nat → UInt8) : List UInt8 := flat16 (fun y => secT (b y)) 8
def vol3 : List Vo := [⟨0, 0, 3, 8, 0, false, []⟩]
/-- Each sector the old one, or the new one. -/
structure BOk (o r : Nat → UInt8) (n : Nat) (b : Nat → UInt8) : Prop where
  lo : ∀ y, y < n → b y = o y ∨ (b y = r y ∧ (r y).toNat % 4 ≠ 0) ∨ (b y = 0 ∧ (r y).toNat % 4 = 0)
  hi : ∀ y, n ≤ y → b y = 0
theorem secT_inj {a b : UInt8} (h : secT a = secT b) : a = b := by
  have := congrArg (fun l => l.getD 0 0) h
  simpa [secT] using this
theorem zero_sec : zero16 = secT 0 := rfl
theorem sT_sec (b : UInt8) : sT ≠ secT b := fun h => by
  have h1 := congrArg (fun l => l.getD 0 0) h
  have h2 := congrArg (fun l => l.getD 1 0) h
  have e1 : (48 : UInt8) = b := by simpa [secT, sT] using h1
  have e2 : (49 : UInt8) = b := by simpa [secT, sT] using h2
  rw [← e1] at e2
  exact absurd e2 (by decide)
theorem sect_flat {f : Nat → List UInt8} (hf : ∀ i, i < 8 → (f i).length = 16) {y : Nat} (hy : y < 8) : sectL (flat16 f 8) (y : Int) = (f y, true) := by
  have hl := flat_len 8 hf
  unfold sectL
  rw [if_pos ⟨by omega, by rw [hl]; omega⟩, show ((y : Int).toNat) = y by simp, Nat.mul_comm 16 y, flat_at 8 hf hy]
section
variable {o r b : Nat → UInt8} {n : Nat} {t u : WS}
theorem was_len (i : Nat) : ((valW o n i).getD zero16).length = 16 := by
  unfold valW
  split
  · exact secT_len _
  · rfl
theorem crash_good (hn : n ≤ 8) (h : CrS o r n t) (hb : BOk o r n b) : ¬ GoR t (evK vol3 2 (txtB b)) none ∧ ∀ u, GoR t (evK vol3 2 (txtB b)) (some u) → dumpS u.now = [txtB b] := by
  have hf : ∀ i, i < 8 → ((fun y => secT (b y)) i).length = 16 := fun i _ => secT_len _
  have hw : ∀ i, i < 8 → ((fun y => (valW o n y).getD zero16) i).length = 16 := fun i _ => was_len i
  have hl : (txtB b).length = 128 := by unfold txtB; rw [flat_len 8 hf]
  have hk := crash_yes (s := t) h.past (vols := vol3) rfl (x := txtB b) hl (fun y hy hv => by
    have hy : y < 8 := hy
    unfold txtB
    rw [flat_at 8 hf hy]
    have : n ≤ y := by
      unfold valW at hv
      rcases Nat.lt_or_ge y n with q | q
      · rw [if_pos q] at hv; cases hv
      · exact q
    rw [hb.hi y this]
    rfl) (by
    show soundL 3 (flat16 (fun y => (valW o n y).getD zero16) 8) (txtB b) t.since = true
    unfold soundL
    rw [hl, flat_len 8 hw, show decide (8 * 16 = 128) = true from rfl, Bool.true_and, List.all_eq_true]
    intro y hy
    have hy : y < 8 := List.mem_range.1 hy
    unfold okAt txtB
    rw [sect_flat hf hy, sect_flat hw hy]
    dsimp only
    rw [Bool.or_eq_true]
    by_cases q : y < n
    · have hv : (valW o n y).getD zero16 = secT (o y) := by unfold valW; rw [if_pos q]; rfl
      rw [hv]
      rcases hb.lo y q with e | ⟨e, e4⟩ | ⟨e, e4⟩
      · exact .inl (by rw [e]; simp)
      · refine .inr ?_
        rw [List.any_eq_true]
        refine ⟨chO (r y) y, by rw [h.since]; exact List.mem_cons_of_mem _ (List.mem_map.2 ⟨y, List.mem_range.2 q, rfl⟩), ?_⟩
        unfold chO
        rw [if_neg e4, e]
        unfold mayO wrO
        rw [if_pos rfl]
        have hz : (y : Int) - max (y : Int) 0 = ((0 : Nat) : Int) := by omega
        have hs : sectL (secT (r y)) (((0 : Nat) : Int)) = (secT (r y), true) := by
          unfold sectL
          rw [if_pos ⟨by decide, by rw [secT_len]; decide⟩]
          unfold secT
          simp
        show (decide ((3 : Int) = 3) && decide (0 ≤ (y : Int)) && (sectL (secT (r y)) ((y : Int) - max (y : Int) 0)).2 && decide (secT (r y) = (sectL (secT (r y)) ((y : Int) - max (y : Int) 0)).1)) = true
        rw [hz, hs]
        simp
      · refine .inr ?_
        rw [List.any_eq_true]
        refine ⟨chO (r y) y, by rw [h.since]; exact List.mem_cons_of_mem _ (List.mem_map.2 ⟨y, List.mem_range.2 q, rfl⟩), ?_⟩
        unfold chO
        rw [if_pos e4, e]
        unfold mayO
        rw [if_neg (by show ¬ (8 : Nat) = 7; decide), if_pos rfl]
        show (decide ((3 : Int) = 3) && decide (0 ≤ (y : Int)) && decide ((y : Int) ≤ (y : Int)) && decide ((y : Int) - (y : Int) < 1) && decide (∀ x ∈ secT 0, x = 0)) = true
        rw [show decide (∀ x ∈ secT 0, x = 0) = true from by decide]
        simp
    · refine .inl ?_
      have hv : (valW o n y).getD zero16 = zero16 := by unfold valW; rw [if_neg q]; rfl
      rw [hv, hb.hi y (by omega)]
      rfl)
  rw [h.gen] at hk
  exact ⟨hk.1, fun u hu => (hk.2 u hu).1⟩
theorem may_sT {i y : Nat} {c : UInt8} : mayO (chO c y) 3 (i : Int) sT = false := by
  unfold chO
  split
  · unfold mayO
    rw [if_neg (by show ¬ (8 : Nat) = 7; decide), if_pos rfl, show decide (∀ x ∈ sT, x = 0) = false from by decide, Bool.and_false]
  · unfold mayO wrO
    rw [if_pos rfl]
    show (decide ((3 : Int) = 3) && decide (0 ≤ (y : Int)) && (sectL (secT c) ((i : Int) - max (y : Int) 0)).2 && decide (sT = (sectL (secT c) ((i : Int) - max (y : Int) 0)).1)) = false
    by_cases q : (i : Int) - max (y : Int) 0 = ((0 : Nat) : Int)
    · have hs : sectL (secT c) (((0 : Nat) : Int)) = (secT c, true) := by
        unfold sectL
        rw [if_pos ⟨by decide, by rw [secT_len]; decide⟩]
        unfold secT
        simp
      rw [q, hs, show decide (sT = (secT c, true).1) = false from decide_eq_false (sT_sec c), Bool.and_false]
    · have hs : sectL (secT c) ((i : Int) - max (y : Int) 0) = ([], false) := by
        unfold sectL
        rw [secT_len, if_neg (by omega)]
      rw [hs]
      simp
theorem crash_bad (h : CrS o r n t) {i : Nat} (hi : i < 8) : ¬ GoR t (evK vol3 2 (flat16 (upd (fun y => secT (b y)) i sT) 8)) (some u) := crash_no rfl fun q => by
  have hf : ∀ j, j < 8 → (upd (fun y => secT (b y)) i sT j).length = 16 := fun j _ => by
    unfold upd
    split
    · rfl
    · exact secT_len _
  have hw : ∀ i, i < 8 → ((fun y => (valW o n y).getD zero16) i).length = 16 := fun i _ => was_len i
  have h1 := q.ok 0 ⟨0, 0, 3, 8, 0, false, []⟩ (flat16 (fun y => (valW o n y).getD zero16) 8) _ rfl (by rw [h.past.dump]; rfl) rfl
  unfold soundL at h1
  rw [Bool.and_eq_true, List.all_eq_true] at h1
  have h2 := h1.2 i (List.mem_range.2 (by rw [flat_len 8 hf]; omega))
  unfold okAt at h2
  rw [sect_flat hf hi, sect_flat hw hi, upd_same, Bool.or_eq_true] at h2
  rcases h2 with h2 | h2
  · have h2 := of_decide_eq_true h2
    dsimp only at h2
    unfold valW at h2
    split at h2
    · exact sT_sec _ h2
    · exact sT_sec 0 h2
  · rw [List.any_eq_true] at h2
    obtain ⟨oo, ho, hm⟩ := h2
    rw [h.since] at ho
    rcases List.mem_cons.1 ho with rfl | ho
    · exact absurd (show false = true from hm) (by decide)
    · obtain ⟨y, _, rfl⟩ := List.mem_map.1 ho
      dsimp only at hm
      rw [may_sT] at hm
      cases hm
theorem crash_gen (h : CrS o r n t) {x : List UInt8} : ¬ GoR t (evK vol3 4 x) (some u) := crash_no rfl fun q => by
  have := q.gen
  rw [h.gen] at this
  cases this
theorem wr_form {c : UInt8} {i : Nat} (hi : i ≤ 1000) : (wrO c i).form := ⟨by show (7 : Nat) < 15; decide, rfl, rfl, by
  intro m hm
  have hm : m = 3 ∨ m = (i : Int) := by simpa [wrO] using hm
  unfold J64
  omega⟩
theorem wr_fits {c : UInt8} {i : Nat} : (wrO c i).fits = true := by
  unfold OW.fits wrO
  simp [secT_len]
theorem evs_ok (hn : n ≤ 8) {j : Nat} {ev : Ev} (h : (evsL o r n)[j]? = some ev) : EvOk t ev := by
  rcases evs_get h with ⟨_, rfl⟩ | ⟨e1, e2, rfl⟩ | ⟨_, rfl⟩ | ⟨e1, e2, rfl⟩
  · exact ⟨⟨by show (0 : Nat) < 15; decide, rfl, rfl, j64s (by decide)⟩, rfl, by show (0 : Int) ≤ 1; decide, by show (1 : Int) ≤ 1000; decide, Nat.zero_le _, Nat.zero_le _, (by intro t ht; cases ht), (by intro q; cases q), fun _ => ⟨by show (0 : Int) ≠ 4; decide, by show (0 : Int) ≠ 5; decide, by show (0 : Int) ≠ 6; decide⟩⟩
  · exact ⟨wr_form (by omega), wr_fits, by show (0 : Int) ≤ 1; decide, by show (1 : Int) ≤ 1000; decide, Nat.zero_le _, Nat.zero_le _, (by intro t ht; cases ht), (by intro q; cases q), fun _ => ⟨by show (0 : Int) ≠ 4; decide, by show (0 : Int) ≠ 5; decide, by show (0 : Int) ≠ 6; decide⟩⟩
  · exact ⟨⟨by show (9 : Nat) < 15; decide, rfl, rfl, by intro n hn; cases hn⟩, rfl, by show (0 : Int) ≤ 2; decide, by show (2 : Int) ≤ 1000; decide, Nat.zero_le _, Nat.zero_le _, (by intro t ht; cases ht), (by intro q; cases q), fun _ => ⟨by show (0 : Int) ≠ 4; decide, by show (0 : Int) ≠ 5; decide, by show (0 : Int) ≠ 6; decide⟩⟩
  · unfold chO
    split
    · exact ⟨⟨by show (8 : Nat) < 15; decide, rfl, rfl, (by
        intro m hm
        have hm : m = 3 ∨ m = ((j - n - 2 : Nat) : Int) ∨ m = 1 := by simpa [evZ] using hm
        unfold J64
        omega)⟩, rfl, by show (0 : Int) ≤ 2; decide, by show (2 : Int) ≤ 1000; decide, Nat.zero_le _, Nat.zero_le _, (by intro t ht; cases ht), (by intro q; cases q), fun _ => ⟨by show (0 : Int) ≠ 4; decide, by show (0 : Int) ≠ 5; decide, by show (0 : Int) ≠ 6; decide⟩⟩
    · exact ⟨wr_form (by omega), wr_fits, by show (0 : Int) ≤ 2; decide, by show (2 : Int) ≤ 1000; decide, Nat.zero_le _, Nat.zero_le _, (by intro t ht; cases ht), (by intro q; cases q), fun _ => ⟨by show (0 : Int) ≠ 4; decide, by show (0 : Int) ≠ 5; decide, by show (0 : Int) ≠ 6; decide⟩⟩
theorem evk_ok {gen : Int} (hg : gen = 2 ∨ gen = 4) {x : List UInt8} (hx : x.length ≤ 1000000) (h : t.gen = 2) : EvOk t (evK vol3 gen x) :=
  ⟨⟨by show (14 : Nat) < 15; decide, rfl, rfl, by intro n hn; cases hn⟩, rfl, by show 0 ≤ gen; omega, by show gen ≤ 1000; omega, by show 1 ≤ 100000; decide, by show 1 ≤ 100000; decide, (by intro t ht; rw [List.mem_singleton.1 ht]; exact hx), (by intro _ q; rw [h] at q; have q : gen = 2 + 1 := q; omega), fun q => absurd rfl q⟩
end
end Go.Proofs.YtlcepoagpocadaaGreatDoor
