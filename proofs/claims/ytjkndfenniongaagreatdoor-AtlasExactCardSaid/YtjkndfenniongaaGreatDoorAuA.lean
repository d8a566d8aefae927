import Derived.Test.YtjkndfenniongaaGreatDoorAtQ
import Derived.Deep.RegionLaw
set_option linter.unusedSimpArgs false
set_option linter.unusedVariables false
set_option maxRecDepth 100000
/- strings.Trim of zero bytes; whether all that is left is zeros. -/
namespace Go.Proofs.YtjkndfenniongaaGreatDoor
open Go Go.RowKit
theorem idx_any (l : List UInt8) (k : Nat) (x : UInt8) (h : l[k]? = some x) (i : Int) (hi : i = (k : Int)) (W : World) : (Instr.index 9 (.string ⟨l.toArray⟩) (.int .i64 i)).run Tryz.prog W = .ok (.int .u8 (x.toNat : Int)) W := by
  subst hi
  obtain ⟨hk, rfl⟩ := List.getElem?_eq_some_iff.1 h
  have e : (⟨l.toArray⟩ : ByteArray)[k]? = some l[k] := by
    rw [getElem?_pos (⟨l.toArray⟩ : ByteArray) k (by show k < (⟨l.toArray⟩ : ByteArray).size; rw [bytes_size]; exact hk)]
    rfl
  simp [Instr.index, run_underlying Tryz.underlying9, asIntOf, go_sem, e]
theorem u8z {x : UInt8} : ((x.toNat : Int) == 0) = decide (x = 0) := by
  by_cases h : x = 0
  · subst h; rfl
  · rw [decide_eq_false h, beq_eq_false_iff_ne]
    intro e
    apply h
    apply UInt8.toNat_inj.1
    show x.toNat = 0
    omega
theorem trimR_any (l : List UInt8) (hl : l.length ≤ 1000000) (w : World) : Calls Tryz.prog 102 #[strV l, .int .u8 0] w fun e w' => (∃ j, j ≤ l.length ∧ e = .returned (strV (l.take j)) ∧ (∀ i x, j ≤ i → l[i]? = some x → x = 0) ∧ (0 < j → ∃ x, l[j - 1]? = some x ∧ x ≠ 0)) ∧ w' = w := by
  refine opq fun R HR => ?_
  unfold strV at HR ⊢
  go_enter Tryz.func102, Tryz.ntmps102
  go_wp2_with fail
  go_loopw [0] (fun v wr => ∃ j : Nat, j ≤ l.length ∧ v = .string ⟨(l.take j).toArray⟩ ∧ (∀ i x, j ≤ i → l[i]? = some x → x = 0) ∧ wr = w) (fun v _ => match v with | .string s => s.size | _ => 0)
  case atStart => exact ⟨l.length, Nat.le_refl _, by rw [List.take_length], (fun i x h1 h2 => by rw [List.getElem?_eq_none h1] at h2; cases h2), rfl⟩
  case round =>
    obtain ⟨j, hj, rfl, hz, rfl⟩ := hrel
    have HZ := Lib.hid hz
    clear hz
    have htl : (l.take j).length = j := by rw [List.length_take]; omega
    have hbs := bytes_size (l.take j)
    rw [htl] at hbs
    by_cases h0 : 0 < j
    · obtain ⟨x, hx⟩ : ∃ x, l[j - 1]? = some x := ⟨_, List.getElem?_eq_getElem (by omega)⟩
      have hix := idx_any (l.take j) (j - 1) x (by rw [List.getElem?_take, if_pos (by omega)]; exact hx) ((j : Int) - 1) (by omega)
      have hw1 : IntKind.i64.wrap ((j : Int) - 1) = (j : Int) - 1 := IntWalk.i64_in _ (by omega)
      have hu := u8z (x := x)
      have hsl := take_bytes ⟨(l.take j).toArray⟩ (j - 1)
      rw [show (⟨(l.take j).toArray⟩ : ByteArray).data.toList = l.take j from rfl, List.take_take, Nat.min_eq_left (by omega)] at hsl
      have HX := Lib.hid hx
      clear hx
      by_cases hq : x = 0
      · rw [decide_eq_true hq] at hu
        have hj1 : ((j : Int) - 1).toNat = j - 1 := by omega
        generalize hA : (⟨(l.take j).toArray⟩ : ByteArray) = AB at *
        go_wp2_with fail
        go_roundw
        case rel => exact ⟨j - 1, by omega, rfl, (fun i y h1 h2 => by
          by_cases e : i = j - 1
          · subst e; rw [HX.out] at h2; cases h2; exact hq
          · exact HZ.out i y (by omega) h2), trivial⟩
        case measure =>
          show (⟨(l.take (j - 1)).toArray⟩ : ByteArray).size < AB.size
          rw [bytes_size, hbs, List.length_take]; omega
      · rw [decide_eq_false hq] at hu
        generalize hA : (⟨(l.take j).toArray⟩ : ByteArray) = AB at *
        go_wp2
        subst hA
        exact HR.out _ _ ⟨⟨j, hj, rfl, HZ.out, fun _ => ⟨x, HX.out, hq⟩⟩, rfl⟩
    · obtain rfl : j = 0 := by omega
      generalize hA : (⟨(l.take 0).toArray⟩ : ByteArray) = AB at *
      go_wp2
      subst hA
      exact HR.out _ _ ⟨⟨0, by omega, rfl, HZ.out, fun q => absurd q (by omega)⟩, rfl⟩
theorem trimL_any (l : List UInt8) (hl : l.length ≤ 1000000) (w : World) : Calls Tryz.prog 101 #[strV l, .int .u8 0] w fun e w' => (∃ j, j ≤ l.length ∧ e = .returned (strV (l.drop j)) ∧ (∀ i x, i < j → l[i]? = some x → x = 0) ∧ (j < l.length → ∃ x, l[j]? = some x ∧ x ≠ 0)) ∧ w' = w := by
  refine opq fun R HR => ?_
  unfold strV at HR ⊢
  go_enter Tryz.func101, Tryz.ntmps101
  go_wp2_with fail
  go_loopw [0] (fun v wr => ∃ j : Nat, j ≤ l.length ∧ v = .string ⟨(l.drop j).toArray⟩ ∧ (∀ i x, i < j → l[i]? = some x → x = 0) ∧ wr = w) (fun v _ => match v with | .string s => s.size | _ => 0)
  case atStart => exact ⟨0, by omega, rfl, (fun i x h1 h2 => by omega), rfl⟩
  case round =>
    obtain ⟨j, hj, rfl, hz, rfl⟩ := hrel
    have HZ := Lib.hid hz
    clear hz
    have htl : (l.drop j).length = l.length - j := List.length_drop
    have hbs := bytes_size (l.drop j)
    rw [htl] at hbs
    by_cases h0 : j < l.length
    · obtain ⟨x, hx⟩ : ∃ x, l[j]? = some x := ⟨_, List.getElem?_eq_getElem h0⟩
      have hix := idx_any (l.drop j) 0 x (by rw [List.getElem?_drop]; exact hx) 0 rfl
      have hu := u8z (x := x)
      have hsl := drop_bytes ⟨(l.drop j).toArray⟩ 1
      rw [show (⟨(l.drop j).toArray⟩ : ByteArray).data.toList = l.drop j from rfl, List.drop_drop] at hsl
      rw [hbs] at hsl
      have HX := Lib.hid hx
      clear hx
      by_cases hq : x = 0
      · rw [decide_eq_true hq] at hu
        obtain ⟨n, hn⟩ : ∃ n, l.length - j = n := ⟨_, rfl⟩
        rw [hn] at hsl hbs
        generalize hA : (⟨(l.drop j).toArray⟩ : ByteArray) = AB at *
        clear hA
        have hn1 : 1 ≤ n := by omega
        go_wp2_with fail
        go_roundw
        case rel => exact ⟨j + 1, by omega, rfl, (fun i y h1 h2 => by
          by_cases e : i = j
          · subst e; rw [HX.out] at h2; cases h2; exact hq
          · exact HZ.out i y (by omega) h2), trivial⟩
        case measure =>
          show (⟨(l.drop (j + 1)).toArray⟩ : ByteArray).size < AB.size
          rw [bytes_size, hbs, List.length_drop]; omega
      · rw [decide_eq_false hq] at hu
        obtain ⟨n, hn⟩ : ∃ n, l.length - j = n := ⟨_, rfl⟩
        rw [hn] at hbs
        have hn1 : 1 ≤ n := by omega
        generalize hA : (⟨(l.drop j).toArray⟩ : ByteArray) = AB at *
        go_wp2
        subst hA
        exact HR.out _ _ ⟨⟨j, hj, rfl, HZ.out, fun _ => ⟨x, HX.out, hq⟩⟩, rfl⟩
    · obtain rfl : j = l.length := by omega
      rw [Nat.sub_self] at hbs
      generalize hA : (⟨(l.drop l.length).toArray⟩ : ByteArray) = AB at *
      go_wp2
      subst hA
      exact HR.out _ _ ⟨⟨l.length, by omega, rfl, HZ.out, fun q => absurd q (by omega)⟩, rfl⟩
theorem trim_iff {l : List UInt8} {i j : Nat} (hj : j ≤ l.length) (hz : ∀ i x, j ≤ i → l[i]? = some x → x = 0) (hn : 0 < j → ∃ x, l[j - 1]? = some x ∧ x ≠ 0) (hi : i ≤ (l.take j).length) (hz2 : ∀ k x, k < i → (l.take j)[k]? = some x → x = 0) : (l.take j).drop i = [] ↔ ∀ x ∈ l, x = 0 := by
  have hl : (l.take j).length = j := by rw [List.length_take]; omega
  rw [hl] at hi
  constructor
  · intro h x hx
    have hij : j ≤ i := by
      have := congrArg List.length h
      rw [List.length_drop, hl] at this
      simp at this; omega
    obtain ⟨k, hk⟩ := List.getElem?_of_mem hx
    by_cases q : k < j
    · exact hz2 k x (by omega) (by rw [List.getElem?_take, if_pos q]; exact hk)
    · exact hz k x (by omega) hk
  · intro h
    by_cases q : 0 < j
    · obtain ⟨x, hx, hne⟩ := hn q
      exact absurd (h x (List.mem_of_getElem? hx)) hne
    · have : j = 0 := by omega
      subst this; simp
theorem trim_any (l : List UInt8) (hl : l.length ≤ 1000000) (w : World) : Calls Tryz.prog 95 #[strV l, .string ⟨#[0]⟩] w fun e w' => (∃ r, e = .returned (strV r) ∧ (r = [] ↔ ∀ x ∈ l, x = 0)) ∧ Same w w' := by
  refine opq fun R HR => ?_
  have hc0 := idx_any [0] 0 0 rfl 0 rfl
  have h1 := Lib.hid (fun w => trimR_any l hl w)
  have h2 := Lib.hid (fun (l' : List UInt8) (h : l'.length ≤ 1000000) w => trimL_any l' h w)
  unfold strV at HR h1 h2 ⊢
  cases l with
  | nil =>
    go_enter Tryz.func95, Tryz.ntmps95
    go_wp2
    exact HR.out _ _ ⟨⟨[], rfl, by simp⟩, Mod.refl _ _⟩
  | cons y l0 =>
    have hm1 := toL2 (y :: l0) (by simp)
    generalize hL : y :: l0 = l at *
    generalize hA : (⟨l.toArray⟩ : ByteArray) = AB at *
    clear hL
    go_enter Tryz.func95, Tryz.ntmps95
    go_wp2_with fail
    go_region_law (first | (go_simp; go_at_call 102; refine (h1.out _).mono ?_; rintro e w1 ⟨⟨j, hj, rfl, hz, hn⟩, rfl⟩; have HZ := Lib.hid hz; have HNz := Lib.hid hn; clear hz hn) | (go_simp; go_at_call 101; refine (h2.out (l.take j) (by rw [List.length_take]; omega) _).mono ?_; rintro e w2 ⟨⟨i, hi, rfl, hz2, hn2⟩, rfl⟩; have HZ2 := Lib.hid hz2; have HN2 := Lib.hid hn2; clear hz2 hn2))
    all_goals
      have hiff := trim_iff hj HZ.out HNz.out hi HZ2.out
      try simp only [List.getElem_toArray, List.getElem_cons_succ, List.getElem_cons_zero, Act.put, List.setIfInBounds_toArray, List.set_cons_zero, List.set_cons_succ]
      go_wp2
      exact HR.out _ _ ⟨⟨_, rfl, hiff⟩, (Mod.refl _ _).drew⟩
set_option maxHeartbeats 1000000 in
theorem zeros_any (R : Nat) (l : List UInt8) (sh : Bool) (hl : l.length ≤ 1000000) (w : World) (h : Blk w R (rcells l sh)) :
    Calls Tryz.prog 86 #[rptr R] w fun e w' => e = .returned (.bool (l.all fun x => x == 0)) ∧ Mod (fun i => i = R) w w' := by
  refine opq fun Rr HR => ?_
  have e0 := h.at_ (i := 0) _ rfl
  have f0 := h.free 0
  have HT := Lib.hid (fun w => trim_any l hl w)
  have M := Lib.hid ((Mod.refl (fun i => i = R) w).setCell (p := ⟨R, 0, none⟩) (fun _ => rfl) (.string ⟨#[]⟩))
  unfold strV at HT
  clear h
  go_enter Tryz.func86, Tryz.ntmps86
  go_wp2_with fail
  refine (HT.out _).mono ?_
  rintro e w1 ⟨⟨r, rfl, hr⟩, M2⟩
  have K := Lib.hid (M.out.same M2)
  clear M M2
  cases r with
  | nil =>
    have ha : (l.all fun x => x == 0) = true := by rw [List.all_eq_true]; intro x hx; simp [hr.1 rfl x hx]
    rw [ha] at HR
    go_wp2
    exact HR.out _ _ ⟨rfl, K.out⟩
  | cons y r =>
    have ha : (l.all fun x => x == 0) = false := by
      cases hb : (l.all fun x => x == 0) with
      | false => rfl
      | true =>
        rw [List.all_eq_true] at hb
        exact absurd (hr.2 (fun x hx => by simpa using hb x hx)) (by simp)
    rw [ha] at HR
    have hm := toL2 (y :: r) (by simp)
    generalize hB : (⟨(y :: r).toArray⟩ : ByteArray) = BB at *
    clear hB hr ha
    go_wp2
    exact HR.out _ _ ⟨rfl, K.out⟩
end Go.Proofs.YtjkndfenniongaaGreatDoor
