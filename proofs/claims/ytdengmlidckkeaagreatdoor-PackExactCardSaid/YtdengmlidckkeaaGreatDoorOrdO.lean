import Derived.Lib.SplitLaws
import Derived.Lib.Join
namespace Go.Proofs.YtdengmlidckkeaaGreatDoor
open Go
/-- What stands between blanks. -/
def spl : List UInt8 → List (List UInt8)
  | [] => [[]]
  | c :: r => if c = 32 then [] :: spl r else match spl r with
    | [] => [[c]]
    | w :: ws => (c :: w) :: ws
theorem spl_ne : ∀ l, ∃ w ws, spl l = w :: ws
  | [] => ⟨_, _, rfl⟩
  | c :: r => by
    obtain ⟨w, ws, e⟩ := spl_ne r
    unfold spl
    by_cases h : c = 32
    · rw [if_pos h]; exact ⟨_, _, rfl⟩
    · rw [if_neg h, e]; exact ⟨_, _, rfl⟩
theorem spl_cons {c : UInt8} {r w : List UInt8} {ws : List (List UInt8)} (h : c ≠ 32) (e : spl r = w :: ws) : spl (c :: r) = (c :: w) :: ws := by
  rw [spl, if_neg h, e]
theorem index_hit (r : List UInt8) : Lib.index (32 :: r) [32] = ((0 : Nat) : Int) := by rw [Lib.index]; simp [List.isPrefixOf]
theorem index_next (c : UInt8) (r : List UInt8) (h : c ≠ 32) (j : Nat) (hj : Lib.index r [32] = j) : Lib.index (c :: r) [32] = ((j + 1 : Nat) : Int) := by
  have hp : ([32] : List UInt8).isPrefixOf (c :: r) = false := by simp [List.isPrefixOf, Ne.symm h]
  rw [Lib.index, hp, hj]
  have : ¬ ((j : Int) == -1) = true := fun e => by have := beq_iff_eq.1 e; omega
  simp only [Bool.false_eq_true, if_false, if_neg this]; omega
theorem split_spl : ∀ l, Lib.splitK [32] 0 (Lib.count l [32]) l = spl l
  | [] => by rw [Lib.count_one]; rfl
  | c :: r => by
    have ih := split_spl r
    by_cases h : c = 32
    · subst h
      rw [Lib.count_cons_eq, Nat.add_comm, Lib.splitK, index_hit]
      simp only [List.length_singleton]
      rw [if_neg (by decide)]
      show [] :: Lib.splitK [32] 0 (Lib.count r [32]) r = _
      rw [ih, spl, if_pos rfl]
    · rw [Lib.count_cons_ne c 32 r h]
      cases hk : Lib.count r [32] with
      | zero =>
        rw [hk] at ih
        rw [spl_cons h ih.symm]; rfl
      | succ k =>
        rw [hk] at ih
        have hm : Lib.index r [32] ≠ -1 := by intro e; rw [Lib.count_miss e] at hk; omega
        have hge := Lib.index_ge r [32]
        obtain ⟨j, hj⟩ : ∃ j : Nat, Lib.index r [32] = j := ⟨(Lib.index r [32]).toNat, by omega⟩
        have hb : ∀ j : Nat, ¬ ((j : Int) == -1) = true := fun j e => by have := beq_iff_eq.1 e; omega
        rw [Lib.splitK, hj, if_neg (hb j), Int.toNat_natCast] at ih
        rw [Lib.splitK, index_next c r h j hj, if_neg (hb (j + 1)), Int.toNat_natCast, spl_cons h ih.symm]
        simp only [List.length_singleton, Nat.add_zero, List.take_succ_cons, List.drop_succ_cons]
theorem spl_word : ∀ (w : List UInt8), (∀ c ∈ w, c ≠ 32) → spl w = [w]
  | [], _ => rfl
  | c :: r, h => by rw [spl_cons (h c (by simp)) (spl_word r fun d hd => h d (by simp [hd]))]
theorem spl_app : ∀ (w r : List UInt8), (∀ c ∈ w, c ≠ 32) → spl (w ++ 32 :: r) = w :: spl r
  | [], r, _ => by rw [List.nil_append, spl, if_pos rfl]
  | c :: l, r, h => by rw [List.cons_append, spl_cons (h c (by simp)) (spl_app l r fun d hd => h d (by simp [hd]))]
theorem joinTail_cons (y : List UInt8) (r : List (List UInt8)) : Lib.joinTail [32] (y :: r) = 32 :: (y ++ Lib.joinTail [32] r) := by simp [Lib.joinTail]
theorem spl_join : ∀ (r : List (List UInt8)) (w : List UInt8), (∀ c ∈ w, c ≠ 32) → (∀ y ∈ r, ∀ c ∈ y, c ≠ 32) → spl (Lib.join (w :: r) [32]) = w :: r
  | [], w, h, _ => by rw [Lib.join_one, spl_word w h]
  | y :: r, w, h, h2 => by
    have ih := spl_join r y (h2 y (by simp)) (fun z hz => h2 z (by simp [hz]))
    rw [Lib.join_cons] at ih
    rw [Lib.join_cons, joinTail_cons, spl_app w _ h, ih]
theorem spl_len : ∀ l, ∀ w ∈ spl l, w.length ≤ l.length
  | [], w, h => by simp [spl] at h; subst h; simp
  | c :: r, w, h => by
    obtain ⟨v, vs, e⟩ := spl_ne r
    have ih := spl_len r
    rw [e] at ih
    by_cases hc : c = 32
    · rw [spl, if_pos hc, e] at h
      simp only [List.mem_cons] at h
      rcases h with rfl | h
      · simp
      · have := ih w (by simp; exact h); simp; omega
    · rw [spl_cons hc e] at h
      simp only [List.mem_cons] at h
      rcases h with rfl | h
      · have := ih v (by simp); simp; omega
      · have := ih w (by simp [h]); simp; omega
theorem spl_count : ∀ l, (spl l).length ≤ l.length + 1
  | [] => by simp [spl]
  | c :: r => by
    obtain ⟨v, vs, e⟩ := spl_ne r
    have ih := spl_count r
    by_cases hc : c = 32
    · rw [spl, if_pos hc]; simp only [List.length_cons]; omega
    · rw [spl_cons hc e]; rw [e] at ih; simp only [List.length_cons] at ih ⊢; omega
/-- What strings.Split hands back at a blank. -/
theorem splitB_spl (s : ByteArray) : (Lib.splitB ⟨#[32]⟩ 0 (Lib.countB s ⟨#[32]⟩) s).map (·.data.toList) = spl s.data.toList := by
  rw [Lib.splitB_data]; exact split_spl s.data.toList
end Go.Proofs.YtdengmlidckkeaaGreatDoor
