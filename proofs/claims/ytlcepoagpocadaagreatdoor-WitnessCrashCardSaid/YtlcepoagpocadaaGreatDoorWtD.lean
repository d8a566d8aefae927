import Derived.Test.YtlcepoagpocadaaGreatDoorMeO
import Derived.Deep.RegionLaw
import Derived.Test.YtlcepoagpocadaaGreatDoorRows2
import Derived.Test.YtlcepoagpocadaaGreatDoorOrdQ
import Derived.Test.YtlcepoagpocadaaGreatDoorMfD
set_option linter.unusedSimpArgs false
set_option linter.unusedVariables false
set_option maxRecDepth 100000
/- strings.Trim of zero bytes. -/
namespace Go.Proofs.YtlcepoagpocadaaGreatDoor
open Go Go.RowKit
theorem idx_any (l : List UInt8) (k : Nat) (x : UInt8) (h : l[k]? = some x) (i : Int) (hi : i = (k : Int)) (W : World) : (Instr.index 9 (.string ⟨l.toArray⟩) (.int .i64 i)).run Tryz.prog W = .ok (.int .u8 (x.toNat : Int)) W := by
  subst hi
  obtain ⟨hk, rfl⟩ := List.getElem?_eq_some_iff.1 h
  have e : (⟨l.toArray⟩ : ByteArray)[k]? = some l[k] := by
    rw [getElem?_pos (⟨l.toArray⟩ : ByteArray) k (by show k < (⟨l.toArray⟩ : ByteArray).size; rw [bytes_size]; exact hk)]
    rfl
  simp [Instr.index, run_underlying Tryz.underlying9, asIntOf, go_sem, e]
theorem toL2 (l : List UInt8) (h : l ≠ []) : (⟨l.toArray⟩ : ByteArray).toList.isEmpty = false := by
  rw [show (⟨l.toArray⟩ : ByteArray).toList = l by simp]; cases l; exact absurd rfl h; rfl
theorem u8z {x : UInt8} : ((x.toNat : Int) == 0) = decide (x = 0) := by
  by_cases h : x = 0
  · subst h; rfl
  · rw [decide_eq_false h, beq_eq_false_iff_ne]
    intro e
    apply h
    apply UInt8.toNat_inj.1
    show x.toNat = 0
    omega
theorem trimR_any (l : List UInt8) (hl : l.length ≤ 1000000) (w : World) : Calls Tryz.prog 177 #[strV l, .int .u8 0] w fun e w' => (∃ j, j ≤ l.length ∧ e = .returned (strV (l.take j)) ∧ (∀ i x, j ≤ i → l[i]? = some x → x = 0) ∧ (0 < j → ∃ x, l[j - 1]? = some x ∧ x ≠ 0)) ∧ w' = w := by
  refine opq fun R HR => ?_
  unfold strV at HR ⊢
  go_enter Tryz.func177, Tryz.ntmps177
  go_wp2_with fail
  go_loopw [0] (fun v wr => ∃ j : Nat, j ≤ l.length ∧ v = .string ⟨(l.take j).toArray⟩ ∧ (∀ i x, j ≤ i → l[i]? = some x → x = 0) ∧ wr = w) (fun v _ => match v with | .string s => s.size | _ => 0)
  case atStart => exact ⟨l.length, Nat.le_refl _, by rw [List.take_length], (fun i x h1 h2 => by rw [List.getElem?_eq_none h1] at h2; cases h2), rfl⟩
  case round =>
    obtain ⟨j, hj, rfl, hz, rfl⟩ := hrel
    have HZ := Lib.hid hz
    clear hz
    have htl : (l.take j).length = j := by rw [List.length_take]; omega
    have hbs := bytes_size (l.take j)
    rw [htl] at hbs
    by_cases h0 : 0 < j
    · obtain ⟨x, hx⟩ : ∃ x, l[j - 1]? = some x := ⟨_, List.getElem?_eq_getElem (by omega)⟩
      have hix := idx_any (l.take j) (j - 1) x (by rw [List.getElem?_take, if_pos (by omega)]; exact hx) ((j : Int) - 1) (by omega)
      have hw1 : IntKind.i64.wrap ((j : Int) - 1) = (j : Int) - 1 := IntWalk.i64_in _ (by omega)
      have hu := u8z (x := x)
      have hsl := take_bytes ⟨(l.take j).toArray⟩ (j - 1)
      rw [show (⟨(l.take j).toArray⟩ : ByteArray).data.toList = l.take j from rfl, List.take_take, Nat.min_eq_left (by omega)] at hsl
      have HX := Lib.hid hx
      clear hx
      by_cases hq : x = 0
      · rw [decide_eq_true hq] at hu
        have hj1 : ((j : Int) - 1).toNat = j - 1 := by omega
        generalize hA : (⟨(l.take j).toArray⟩ : ByteArray) = AB at *
        go_wp2_with fail
        go_roundw
        case rel => exact ⟨j - 1, by omega, rfl, (fun i y h1 h2 => by
          by_cases e : i = j - 1
          · subst e; rw [HX.out] at h2; cases h2; exact hq
          · exact HZ.out i y (by omega) h2), trivial⟩
        case measure =>
          show (⟨(l.take (j - 1)).toArray⟩ : ByteArray).size < AB.size
          rw [bytes_size, hbs, List.length_take]; omega
      · rw [decide_eq_false hq] at hu
        generalize hA : (⟨(l.take j).toArray⟩ : ByteArray) = AB at *
        go_wp2
        subst hA
        exact HR.out _ _ ⟨⟨j, hj, rfl, HZ.out, fun _ => ⟨x, HX.out, hq⟩⟩, rfl⟩
    · obtain rfl : j = 0 := by omega
      generalize hA : (⟨(l.take 0).toArray⟩ : ByteArray) = AB at *
      go_wp2
      subst hA
      exact HR.out _ _ ⟨⟨0, by omega, rfl, HZ.out, fun q => absurd q (by omega)⟩, rfl⟩
theorem trimL_any (l : List UInt8) (hl : l.length ≤ 1000000) (w : World) : Calls Tryz.prog 176 #[strV l, .int .u8 0] w fun e w' => (∃ j, j ≤ l.length ∧ e = .returned (strV (l.drop j)) ∧ (∀ i x, i < j → l[i]? = some x → x = 0) ∧ (j < l.length → ∃ x, l[j]? = some x ∧ x ≠ 0)) ∧ w' = w := by
  refine opq fun R HR => ?_
  unfold strV at HR ⊢
  go_enter Tryz.func176, Tryz.ntmps176
  go_wp2_with fail
  go_loopw [0] (fun v wr => ∃ j : Nat, j ≤ l.length ∧ v = .string ⟨(l.drop j).toArray⟩ ∧ (∀ i x, i < j → l[i]? = some x → x = 0) ∧ wr = w) (fun v _ => match v with | .string s => s.size | _ => 0)
  case atStart => exact ⟨0, by omega, rfl, (fun i x h1 h2 => by omega), rfl⟩
  case round =>
    obtain ⟨j, hj, rfl, hz, rfl⟩ := hrel
    have HZ := Lib.hid hz
    clear hz
    have htl : (l.drop j).length = l.length - j := List.length_drop
    have hbs := bytes_size (l.drop j)
    rw [htl] at hbs
    by_cases h0 : j < l.length
    · obtain ⟨x, hx⟩ : ∃ x, l[j]? = some x := ⟨_, List.getElem?_eq_getElem h0⟩
      have hix := idx_any (l.drop j) 0 x (by rw [List.getElem?_drop]; exact hx) 0 rfl
      have hu := u8z (x := x)
      have hsl := drop_bytes ⟨(l.drop j).toArray⟩ 1
      rw [show (⟨(l.drop j).toArray⟩ : ByteArray).data.toList = l.drop j from rfl, List.drop_drop] at hsl
      rw [hbs] at hsl
      have HX := Lib.hid hx
      clear hx
      by_cases hq : x = 0
      · rw [decide_eq_true hq] at hu
        obtain ⟨n, hn⟩ : ∃ n, l.length - j = n := ⟨_, rfl⟩
        rw [hn] at hsl hbs
        generalize hA : (⟨(l.drop j).toArray⟩ : ByteArray) = AB at *
        clear hA
        have hn1 : 1 ≤ n := by omega
        go_wp2_with fail
        go_roundw
        case rel => exact ⟨j + 1, by omega, rfl, (fun i y h1 h2 => by
          by_cases e : i = j
          · subst e; rw [HX.out] at h2; cases h2; exact hq
          · exact HZ.out i y (by omega) h2), trivial⟩
        case measure =>
          show (⟨(l.drop (j + 1)).toArray⟩ : ByteArray).size < AB.size
          rw [bytes_size, hbs, List.length_drop]; omega
      · rw [decide_eq_false hq] at hu
        obtain ⟨n, hn⟩ : ∃ n, l.length - j = n := ⟨_, rfl⟩
        rw [hn] at hbs
        have hn1 : 1 ≤ n := by omega
        generalize hA : (⟨(l.drop j).toArray⟩ : ByteArray) = AB at *
        go_wp2
        subst hA
        exact HR.out _ _ ⟨⟨j, hj, rfl, HZ.out, fun _ => ⟨x, HX.out, hq⟩⟩, rfl⟩
    · obtain rfl : j = l.length := by omega
      rw [Nat.sub_self] at hbs
      generalize hA : (⟨(l.drop l.length).toArray⟩ : ByteArray) = AB at *
      go_wp2
      subst hA
      exact HR.out _ _ ⟨⟨l.length, by omega, rfl, HZ.out, fun q => absurd q (by omega)⟩, rfl⟩
theorem trim_iff {l : List UInt8} {i j : Nat} (hj : j ≤ l.length) (hz : ∀ i x, j ≤ i → l[i]? = some x → x = 0) (hn : 0 < j → ∃ x, l[j - 1]? = some x ∧ x ≠ 0) (hi : i ≤ (l.take j).length) (hz2 : ∀ k x, k < i → (l.take j)[k]? = some x → x = 0) : (l.take j).drop i = [] ↔ ∀ x ∈ l, x = 0 := by
  have hl : (l.take j).length = j := by rw [List.length_take]; omega
  rw [hl] at hi
  constructor
  · intro h x hx
    have hij : j ≤ i := by
      have := congrArg List.length h
      rw [List.length_drop, hl] at this
      simp at this; omega
    obtain ⟨k, hk⟩ := List.getElem?_of_mem hx
    by_cases q : k < j
    · exact hz2 k x (by omega) (by rw [List.getElem?_take, if_pos q]; exact hk)
    · exact hz k x (by omega) hk
  · intro h
    by_cases q : 0 < j
    · obtain ⟨x, hx, hne⟩ := hn q
      exact absurd (h x (List.mem_of_getElem? hx)) hne
    · have : j = 0 := by omega
      subst this; simp
theorem trim0_any (l : List UInt8) (hl : l.length ≤ 1000000) (w : World) : Calls Tryz.prog 147 #[strV l, .string ⟨#[0]⟩] w fun e w' => (∃ r, e = .returned (strV r) ∧ (r = [] ↔ ∀ x ∈ l, x = 0)) ∧ Same w w' := by
  refine opq fun R HR => ?_
  have hc0 := idx_any [0] 0 0 rfl 0 rfl
  have h1 := Lib.hid (fun w => trimR_any l hl w)
  have h2 := Lib.hid (fun (l' : List UInt8) (h : l'.length ≤ 1000000) w => trimL_any l' h w)
  unfold strV at HR h1 h2 ⊢
  cases l with
  | nil =>
    go_enter Tryz.func147, Tryz.ntmps147
    go_wp2
    exact HR.out _ _ ⟨⟨[], rfl, by simp⟩, Mod.refl _ _⟩
  | cons y l0 =>
    have hm1 := toL2 (y :: l0) (by simp)
    generalize hL : y :: l0 = l at *
    generalize hA : (⟨l.toArray⟩ : ByteArray) = AB at *
    clear hL
    go_enter Tryz.func147, Tryz.ntmps147
    go_wp2_with fail
    go_region_law (first | (go_simp; go_at_call 177; refine (h1.out _).mono ?_; rintro e w1 ⟨⟨j, hj, rfl, hz, hn⟩, rfl⟩; have HZ := Lib.hid hz; have HNz := Lib.hid hn; clear hz hn) | (go_simp; go_at_call 176; refine (h2.out (l.take j) (by rw [List.length_take]; omega) _).mono ?_; rintro e w2 ⟨⟨i, hi, rfl, hz2, hn2⟩, rfl⟩; have HZ2 := Lib.hid hz2; have HN2 := Lib.hid hn2; clear hz2 hn2))
    all_goals
      have hiff := trim_iff hj HZ.out HNz.out hi HZ2.out
      try simp only [List.getElem_toArray, List.getElem_cons_succ, List.getElem_cons_zero, Act.put, List.setIfInBounds_toArray, List.set_cons_zero, List.set_cons_succ]
      go_wp2
      exact HR.out _ _ ⟨⟨_, rfl, hiff⟩, (Mod.refl _ _).drew⟩
end Go.Proofs.YtlcepoagpocadaaGreatDoor
set_option maxRecDepth 100000
/- A witness's sectors of a text. -/
namespace Go.Proofs.YtlcepoagpocadaaGreatDoor
open Go Go.RowKit
/-- A text's sector at a place, and whether there is one. -/
def sectL (t : List UInt8) (i : Int) : List UInt8 × Bool := if 0 ≤ i ∧ i < (t.length / 16 : Nat) then ((t.drop (16 * i.toNat)).take 16, true) else ([], false)
theorem ext_mid (l : List UInt8) (a b : Nat) : (⟨l.toArray⟩ : ByteArray).extract a b = ⟨((l.drop a).take (b - a)).toArray⟩ := by
  apply ByteArray.ext
  rw [ByteArray.data_extract]
  apply Array.ext'
  simp [Array.toList_extract, List.extract_eq_take_drop]
set_option maxHeartbeats 4000000 in
theorem sector_text (t : List UInt8) (i : Int) (ht : t.length ≤ 10000000) (h1 : -9223372036854775808 ≤ i) (h2 : i ≤ 9223372036854775807) (w : World) :
    Calls Tryz.prog 125 #[.string ⟨t.toArray⟩, .int .i64 i] w fun e w' => e = .returned (.tuple #[.string ⟨(sectL t i).1.toArray⟩, .bool (sectL t i).2]) ∧ Same w w' := by
  refine opq fun R HR => ?_
  have hsz : (⟨t.toArray⟩ : ByteArray).size = t.length := rfl
  by_cases h : 0 ≤ i ∧ i < (t.length / 16 : Nat)
  · obtain ⟨n, rfl⟩ : ∃ n : Nat, i = (n : Int) := ⟨i.toNat, by omega⟩
    have e : sectL t n = ((t.drop (16 * n)).take 16, true) := by unfold sectL; rw [if_pos h]; simp
    rw [e] at HR
    dsimp only at HR
    have d1 : decide ((n : Int) < 0) = false := decide_eq_false (by omega)
    have d2 : (n : Int) < (t.length : Int) / 16 := by omega
    have d3 : ¬ ((t.length : Int) / 16 ≤ (n : Int)) := by omega
    go_enter Tryz.func125, Tryz.ntmps125
    go_wp2_with fail
    refine HR.out _ _ ⟨?_, Mod.refl _ _⟩
    show Ending.returned (.tuple #[.string ((⟨t.toArray⟩ : ByteArray).extract (n * 16) ((n + 1) * 16)), .bool true]) = _
    rw [ext_mid, show (n + 1) * 16 - n * 16 = 16 by omega, show n * 16 = 16 * n by omega]
  · have e : sectL t i = ([], false) := by unfold sectL; rw [if_neg h]
    rw [e] at HR
    dsimp only at HR
    by_cases h0 : i < 0
    · have d1 : decide (i < 0) = true := decide_eq_true h0
      go_enter Tryz.func125, Tryz.ntmps125
      go_wp2_with fail
      exact HR.out _ _ ⟨rfl, Mod.refl _ _⟩
    · have d1 : decide (i < 0) = false := decide_eq_false h0
      have d2 : (t.length : Int) / 16 ≤ i := by omega
      go_enter Tryz.func125, Tryz.ntmps125
      go_wp2_with fail
      exact HR.out _ _ ⟨rfl, Mod.refl _ _⟩
end Go.Proofs.YtlcepoagpocadaaGreatDoor
set_option maxRecDepth 100000
/- Whether a sector may be so, by an order. -/
namespace Go.Proofs.YtlcepoagpocadaaGreatDoor
open Go Go.RowKit
/-- Whether a volume's sector may be so, by an order. -/
def mayO (o : OW) (id at_ : Int) (s : List UInt8) : Bool :=
  if o.k = 7 then decide (o.ns.getD 0 0 = id) && decide (0 ≤ o.ns.getD 1 0) && (sectL (o.ts.getD 0 []) (at_ - max (o.ns.getD 1 0) 0)).2 && decide (s = (sectL (o.ts.getD 0 []) (at_ - max (o.ns.getD 1 0) 0)).1)
  else if o.k = 8 then decide (o.ns.getD 0 0 = id) && decide (0 ≤ o.ns.getD 1 0) && decide (o.ns.getD 1 0 ≤ at_) && decide (at_ - o.ns.getD 1 0 < o.ns.getD 2 0) && decide (∀ x ∈ s, x = 0)
  else false
set_option maxHeartbeats 4000000 in
theorem may_other (u : TypeId) (v : Value) (h7 : u ≠ 38) (h8 : u ≠ 42) (id at_ : Int) (s : List UInt8) (w : World) :
    Calls Tryz.prog 128 #[.iface u v, .int .i64 id, .int .i64 at_, strV s] w fun e w' => e = .returned (.bool false) ∧ Same w w' := by
  refine opq fun R HR => ?_
  have n38 := fun W => no38 W u v h7
  have n42 := fun W => no42 W u v h8
  unfold strV
  generalize (⟨s.toArray⟩ : ByteArray) = sb at *
  go_enter Tryz.func128, Tryz.ntmps128
  go_wp2_with fail
  exact HR.out _ _ ⟨rfl, ((Mod.refl _ _).alloc _).alloc _⟩
set_option maxHeartbeats 8000000 in
theorem may_38 (i a : Int) (t : List UInt8) (id at_ : Int) (h0 : 0 ≤ at_) (h1 : at_ ≤ 1000000) (ha : J64 a) (ht : t.length ≤ 1000000) (s : List UInt8) (w : World) :
    Calls Tryz.prog 128 #[.iface 38 (.agg #[.int .i64 i, .int .i64 a, strV t]), .int .i64 id, .int .i64 at_, strV s] w fun e w' => e = .returned (.bool (decide (i = id) && decide (0 ≤ a) && (sectL t (at_ - max a 0)).2 && decide (s = (sectL t (at_ - max a 0)).1))) ∧ Same w w' := by
  refine opq fun R HR => ?_
  unfold J64 at ha
  have SX := Lib.hid (fun w => sector_text t (at_ - max a 0) (by omega) (by omega) (by omega) w)
  have y38 := fun W => is38 W (.agg #[.int .i64 i, .int .i64 a, strV t])
  unfold strV at *
  obtain ⟨p, b, hp⟩ : ∃ p b, sectL t (at_ - max a 0) = (p, b) := ⟨_, _, rfl⟩
  rw [hp] at HR SX
  dsimp only at HR SX
  clear hp
  go_enter Tryz.func128, Tryz.ntmps128
  go_wp2_with fail
  refine (SX.out _).mono ?_
  rintro e w2 ⟨rfl, M⟩
  have N := Lib.hid (show Same w w2 from ((Mod.refl _ _).alloc _).same M)
  have BX := Lib.hid ((Blk.new w #[.int .i64 i, .int .i64 a, .string ⟨t.toArray⟩] 38).mod M (fun q => q))
  have q0 := BX.out.at_ (i := 0) _ rfl
  have q1 := BX.out.at_ (i := 1) _ rfl
  clear M
  by_cases e3 : s = p
  · have hb : (s == p) = true := by simp [e3]
    have hd : decide (s = p) = true := decide_eq_true e3
    rw [hd] at HR
    subst e3
    cases b <;> by_cases e1 : i = id <;> by_cases e2 : 0 ≤ a <;> simp only [e1, e2, decide_true, decide_false, Bool.and_true, Bool.and_false, Bool.true_and, Bool.false_and] at HR
    all_goals go_wp2_with fail
    all_goals exact HR.out _ _ ⟨rfl, N.out⟩
  · have hb : (s == p) = false := by simpa using e3
    have hd : decide (s = p) = false := decide_eq_false e3
    rw [hd] at HR
    cases b <;> by_cases e1 : i = id <;> by_cases e2 : 0 ≤ a <;> simp only [e1, e2, decide_true, decide_false, Bool.and_true, Bool.and_false, Bool.true_and, Bool.false_and] at HR
    all_goals go_wp2_with fail
    all_goals exact HR.out _ _ ⟨rfl, N.out⟩
set_option maxHeartbeats 8000000 in
theorem may_42 (i a n : Int) (id at_ : Int) (h0 : 0 ≤ at_) (h1 : at_ ≤ 1000000) (ha : J64 a) (s : List UInt8) (hs : s.length ≤ 1000000) (w : World) :
    Calls Tryz.prog 128 #[.iface 42 (.agg #[.int .i64 i, .int .i64 a, .int .i64 n]), .int .i64 id, .int .i64 at_, strV s] w fun e w' => e = .returned (.bool (decide (i = id) && decide (0 ≤ a) && decide (a ≤ at_) && decide (at_ - a < n) && decide (∀ x ∈ s, x = 0))) ∧ Same w w' := by
  refine opq fun R HR => ?_
  unfold J64 at ha
  have TX := Lib.hid (fun w => trim0_any s hs w)
  have n38 := fun W => no38 W 42 (.agg #[.int .i64 i, .int .i64 a, .int .i64 n]) (by decide)
  have y42 := fun W => is42 W (.agg #[.int .i64 i, .int .i64 a, .int .i64 n])
  unfold strV at *
  generalize hsb : (⟨s.toArray⟩ : ByteArray) = sb at *
  by_cases e1 : i = id
  · subst e1
    by_cases e2 : 0 ≤ a
    · by_cases e3 : a ≤ at_
      · by_cases e4 : at_ - a < n
        · simp only [e2, e3, e4, decide_true, Bool.true_and] at HR
          go_enter Tryz.func128, Tryz.ntmps128
          go_wp2_with fail
          refine (TX.out _).mono ?_
          rintro e w2 ⟨⟨r, rfl, hr⟩, M⟩
          have N := Lib.hid (show Same w w2 from (((Mod.refl _ _).alloc _).alloc _).same M)
          clear M
          cases r with
          | nil =>
            have hd : decide (∀ x ∈ s, x = 0) = true := decide_eq_true (hr.1 rfl)
            rw [hd] at HR
            go_wp2_with fail
            exact HR.out _ _ ⟨rfl, N.out⟩
          | cons y r =>
            have hd : decide (∀ x ∈ s, x = 0) = false := decide_eq_false (fun q => by have := hr.2 q; cases this)
            rw [hd] at HR
            have hb : ((y :: r) == ([] : List UInt8)) = false := rfl
            go_wp2_with fail
            exact HR.out _ _ ⟨rfl, N.out⟩
        · simp only [e2, e3, e4, decide_true, decide_false, Bool.true_and, Bool.false_and] at HR
          go_enter Tryz.func128, Tryz.ntmps128
          go_wp2_with fail
          exact HR.out _ _ ⟨rfl, ((Mod.refl _ _).alloc _).alloc _⟩
      · simp only [e2, e3, decide_true, decide_false, Bool.true_and, Bool.false_and] at HR
        go_enter Tryz.func128, Tryz.ntmps128
        go_wp2_with fail
        exact HR.out _ _ ⟨rfl, ((Mod.refl _ _).alloc _).alloc _⟩
    · simp only [e2, decide_true, decide_false, Bool.true_and, Bool.false_and] at HR
      go_enter Tryz.func128, Tryz.ntmps128
      go_wp2_with fail
      exact HR.out _ _ ⟨rfl, ((Mod.refl _ _).alloc _).alloc _⟩
  · simp only [e1, decide_false, Bool.false_and] at HR
    have hb : (i == id) = false := by simpa using e1
    go_enter Tryz.func128, Tryz.ntmps128
    go_wp2_with fail
    exact HR.out _ _ ⟨rfl, ((Mod.refl _ _).alloc _).alloc _⟩
theorem may_any (o : OW) (hf : o.form) (hl : ∀ t ∈ o.ts, t.length ≤ 1000000) (id at_ : Int) (h0 : 0 ≤ at_) (h1 : at_ ≤ 1000000) (s : List UInt8) (hs : s.length ≤ 1000000) (w : World) :
    Calls Tryz.prog 128 #[ordW o, .int .i64 id, .int .i64 at_, strV s] w fun e w' => e = .returned (.bool (mayO o id at_ s)) ∧ Same w w' := by
  obtain ⟨k, ns, ts⟩ := o
  obtain ⟨h15, hnn, hnd, hi⟩ := hf
  dsimp only at h15 hnn hnd hi hl
  rcases kinds15 h15 with h | h | h | h | h | h | h | h | h | h | h | h | h | h | h <;> subst h
  case inr.inr.inr.inr.inr.inr.inr.inl =>
    obtain ⟨i, a, rfl⟩ := len2 hnn
    obtain ⟨t, rfl⟩ := len1 hnd
    exact may_38 i a t id at_ h0 h1 (hi a (by simp)) (hl t (by simp)) s w
  case inr.inr.inr.inr.inr.inr.inr.inr.inl =>
    obtain ⟨i, a, n, rfl⟩ := len3 hnn
    obtain rfl : ts = [] := List.length_eq_zero_iff.1 hnd
    exact may_42 i a n id at_ h0 h1 (hi a (by simp)) s hs w
  all_goals exact may_other _ _ (by dsimp only; decide) (by dsimp only; decide) id at_ s w
end Go.Proofs.YtlcepoagpocadaaGreatDoor
set_option maxRecDepth 100000
/- Whether one of orders lets a sector be so. -/
namespace Go.Proofs.YtlcepoagpocadaaGreatDoor
open Go Go.RowKit
/-- Orders that can be asked. -/
def OkO (o : OW) : Prop := o.form ∧ ∀ t ∈ o.ts, t.length ≤ 1000000
structure Cap3 (w : World) (c4 c9 c10 : Nat) (id at_ : Int) (s : List UInt8) : Prop where
  h4 : w.cell? ⟨c4, 0, none⟩ = some (.int .i64 id)
  h9 : w.cell? ⟨c9, 0, none⟩ = some (.int .i64 at_)
  h10 : w.cell? ⟨c10, 0, none⟩ = some (strV s)
  l4 : c4 < w.heap.size
  l9 : c9 < w.heap.size
  l10 : c10 < w.heap.size
theorem Cap3.same {w w' : World} {c4 c9 c10 : Nat} {id at_ : Int} {s : List UInt8} (h : Cap3 w c4 c9 c10 id at_ s) (M : Same w w') : Cap3 w' c4 c9 c10 id at_ s :=
  ⟨(M.cell h.l4 (fun q => q) 0).trans h.h4, (M.cell h.l9 (fun q => q) 0).trans h.h9, (M.cell h.l10 (fun q => q) 0).trans h.h10, Nat.lt_of_lt_of_le h.l4 M.size, Nat.lt_of_lt_of_le h.l9 M.size, Nat.lt_of_lt_of_le h.l10 M.size⟩
theorem snd127 (o : OW) (hf : OkO o) (c4 c9 c10 : Nat) (id at_ : Int) (h0 : 0 ≤ at_) (h1 : at_ ≤ 1000000) (s : List UInt8) (hs : s.length ≤ 1000000) (w : World) (hc : Cap3 w c4 c9 c10 id at_ s) :
    Calls Tryz.prog 127 #[ordW o, bp c4, bp c9, bp c10] w fun e w' => e = .returned (.bool (mayO o id at_ s)) ∧ Same w w' := by
  refine opq fun R HR => ?_
  have HM := Lib.hid (fun w => may_any o hf.1 hf.2 id at_ h0 h1 s hs w)
  obtain ⟨q4, q9, q10, _, _, _⟩ := hc
  generalize ordW o = vo at *
  unfold strV at *
  generalize (⟨s.toArray⟩ : ByteArray) = sb at *
  go_enter Tryz.func127, Tryz.ntmps127
  go_wp2_with fail
  refine (HM.out _).mono ?_
  rintro e w1 ⟨rfl, hM⟩
  have M := Lib.hid hM
  clear hM
  go_wp2
  exact HR.out _ _ ⟨rfl, M.out⟩
set_option maxHeartbeats 4000000 in
theorem idx146 (l : List OW) (hf : ∀ o ∈ l, OkO o) (hll : l.length ≤ 100000) (a : Option Addr) (n c : Nat) (hn : l.length = n) (c4 c9 c10 : Nat) (id at_ : Int) (h0 : 0 ≤ at_) (h1 : at_ ≤ 1000000) (s : List UInt8) (hs : s.length ≤ 1000000) (w : World) (hc : Cap3 w c4 c9 c10 id at_ s) (hr : RowAt w a (l.map ordW)) :
    Calls Tryz.prog 146 #[.slice a n c, .func (.func 127) #[] #[bp c4, bp c9, bp c10]] w fun e w' => ∃ i : Int, e = .returned (.int .i64 i) ∧ decide (0 ≤ i) = l.any (fun o => mayO o id at_ s) ∧ -1 ≤ i ∧ i ≤ 1000000 ∧ Same w w' := by
  refine opq fun R HR => ?_
  have HRw := Lib.hid hr
  have HN := Lib.hid hn
  have HC := Lib.hid hc
  have HF := Lib.hid hf
  have HS := Lib.hid hs
  rw [hn] at hll
  clear hr hn hc hf hs
  go_enter Tryz.func146, Tryz.ntmps146
  go_wp2_with fail
  go_loopw [8] (fun i wr => ∃ j : Nat, j ≤ n ∧ i = .int .i64 j ∧ (∀ x ∈ l.take j, mayO x id at_ s = false) ∧ Same w wr) (fun i _ => n - (intOf i).toNat)
  case atStart => exact ⟨0, Nat.zero_le _, rfl, by simp, Mod.refl _ _⟩
  case round =>
    obtain ⟨j, hj, rfl, ht, hM⟩ := hrel
    have HT := Lib.hid ht
    have J := Lib.hid hM
    clear ht hM
    by_cases hlt : j < n
    · obtain ⟨x, hx⟩ : ∃ x, l[j]? = some x := ⟨_, List.getElem?_eq_getElem (by rw [HN.out]; exact hlt)⟩
      obtain ⟨b, o1, rfl, hb, hcc⟩ := (HRw.out.same J.out) (by rw [List.length_map, HN.out]; omega)
      have q1 := hcc j (ordW x) (by rw [List.getElem?_map, hx]; rfl)
      have TK := Lib.hid (show l.take (j + 1) = l.take j ++ [x] by
        obtain ⟨h1, h2⟩ := List.getElem?_eq_some_iff.1 hx
        rw [List.take_succ_eq_append_getElem h1, h2])
      have HX := Lib.hid hx
      have HM1 := Lib.hid (snd127 x (HF.out x (List.mem_of_getElem? hx)) c4 c9 c10 id at_ h0 h1 s HS.out wr (HC.out.same J.out))
      clear hx hcc
      generalize hvo : ordW x = vo at *
      have hi0 : (0 : Int) ≤ (j : Int) := by omega
      have hi1 : (j : Int) < (n : Int) := by omega
      go_wp2_with fail
      refine HM1.out.mono ?_
      rintro e w1 ⟨rfl, hM⟩
      have M1 := Lib.hid (J.out.same hM)
      clear hM
      cases hm : mayO x id at_ s with
      | false =>
        go_wp2_with fail
        go_roundw
        case rel => exact ⟨j + 1, by omega, by go_num, by rw [TK.out]; intro y hy; rcases List.mem_append.1 hy with hy | hy; exact HT.out y hy; rw [List.mem_singleton.1 hy, hm], M1.out⟩
        case measure => simp [intOf]; omega
      | true =>
        go_wp2
        refine HR.out _ _ ⟨(j : Int), rfl, ?_, by omega, by omega, M1.out⟩
        have hd : l.any (fun o => mayO o id at_ s) = true := by
          rw [List.any_eq_true]
          exact ⟨x, List.mem_of_getElem? HX.out, hm⟩
        rw [hd]
        simp
    · obtain rfl : j = n := by omega
      have hd : l.any (fun o => mayO o id at_ s) = false := by
        have := HT.out
        rw [List.take_of_length_le (by rw [HN.out]; exact Nat.le_refl _)] at this
        rw [List.any_eq_false]
        intro x hx
        rw [this x hx]
        decide
      go_wp2
      exact HR.out _ _ ⟨-1, rfl, by rw [hd]; rfl, by omega, by omega, J.out⟩
theorem has126 (l : List OW) (hf : ∀ o ∈ l, OkO o) (hll : l.length ≤ 100000) (a : Option Addr) (n c : Nat) (hn : l.length = n) (c4 c9 c10 : Nat) (id at_ : Int) (h0 : 0 ≤ at_) (h1 : at_ ≤ 1000000) (s : List UInt8) (hs : s.length ≤ 1000000) (w : World) (hc : Cap3 w c4 c9 c10 id at_ s) (hr : RowAt w a (l.map ordW)) :
    Calls Tryz.prog 126 #[.slice a n c, .func (.func 127) #[] #[bp c4, bp c9, bp c10]] w fun e w' => e = .returned (.bool (l.any (fun o => mayO o id at_ s))) ∧ Same w w' := by
  refine opq fun R HR => ?_
  have H := Lib.hid (idx146 l hf hll a n c hn c4 c9 c10 id at_ h0 h1 s hs w hc hr)
  clear hf hn hc hr
  go_enter Tryz.func126, Tryz.ntmps126
  go_wp2_with fail
  refine H.out.mono ?_
  rintro e w1 ⟨i, rfl, hi, hi0, hi1, hM⟩
  have M := Lib.hid hM
  have HI := Lib.hid hi
  clear hM hi
  go_wp2
  refine HR.out _ _ ⟨?_, M.out⟩
  rw [← HI.out]
  rfl
end Go.Proofs.YtlcepoagpocadaaGreatDoor
set_option maxRecDepth 100000
/- Whether a volume's sectors may be so. -/
namespace Go.Proofs.YtlcepoagpocadaaGreatDoor
open Go Go.RowKit
def okAt (id : Int) (was is_ : List UInt8) (l : List OW) (i : Nat) : Bool := decide ((sectL is_ (i : Int)).1 = (sectL was (i : Int)).1) || l.any (fun o => mayO o id (i : Int) (sectL is_ (i : Int)).1)
/-- Whether a volume's sectors may be so, by what they were, and by orders. -/
def soundL (id : Int) (was is_ : List UInt8) (l : List OW) : Bool := decide (was.length = is_.length) && (List.range (is_.length / 16)).all (okAt id was is_ l)
theorem sectL_len (t : List UInt8) (i : Int) : (sectL t i).1.length ≤ 16 := by
  unfold sectL
  split
  · dsimp only
    rw [List.length_take]
    omega
  · simp
set_option maxHeartbeats 8000000 in
theorem sound_any (id : Int) (was is_ : List UInt8) (hwl : was.length ≤ 1000000) (hil : is_.length ≤ 1000000) (l : List OW) (hf : ∀ o ∈ l, OkO o) (hll : l.length ≤ 100000) (a : Option Addr) (n c : Nat) (hn : l.length = n) (w : World) (hr : RowAt w a (l.map ordW)) :
    Calls Tryz.prog 103 #[.int .i64 id, strV was, strV is_, .slice a n c] w fun e w' => e = .returned (.bool (soundL id was is_ l)) ∧ Same w w' := by
  refine opq fun R HR => ?_
  have HRw := Lib.hid hr
  have HN := Lib.hid hn
  have HF := Lib.hid hf
  clear hr hn hf
  have b1 := bytes_size was
  have b2 := bytes_size is_
  unfold strV at *
  by_cases hne : was.length = is_.length
  case neg =>
    have hd : soundL id was is_ l = false := by unfold soundL; rw [decide_eq_false hne]; rfl
    rw [hd] at HR
    have hq : ((was.length : Int) != (is_.length : Int)) = true := by simp; omega
    go_enter Tryz.func103, Tryz.ntmps103
    go_wp2
    exact HR.out _ _ ⟨rfl, (Mod.refl _ _).alloc _⟩
  obtain ⟨q, hq⟩ : ∃ q, is_.length / 16 = q := ⟨_, rfl⟩
  have hd : soundL id was is_ l = (List.range q).all (okAt id was is_ l) := by unfold soundL; rw [decide_eq_true hne, hq]; rfl
  rw [hd] at HR
  have hqq : ((was.length : Int) != (is_.length : Int)) = false := by rw [hne]; simp
  have hdv : ((is_.length : Int)).tdiv 16 = (q : Int) := by rw [Int.tdiv_eq_ediv_of_nonneg (by omega), ← hq]; rfl
  have hdv2 : ((is_.length : Int)) / 16 = (q : Int) := by rw [← hq]; rfl
  have S1 := Lib.hid (fun i (h1 : -9223372036854775808 ≤ i) (h2 : i ≤ 9223372036854775807) w => sector_text is_ i (by omega) h1 h2 w)
  have S2 := Lib.hid (fun i (h1 : -9223372036854775808 ≤ i) (h2 : i ≤ 9223372036854775807) w => sector_text was i (by omega) h1 h2 w)
  have hqs : q ≤ 1000000 := by omega
  clear hd hq
  generalize hSI : (⟨is_.toArray⟩ : ByteArray) = si at *
  generalize hSW : (⟨was.toArray⟩ : ByteArray) = sw at *
  have M0 := Lib.hid ((Mod.refl (fun _ => False) w).alloc (.cells #[.int .i64 id] 3))
  have B0 := Lib.hid (Blk.new w #[.int .i64 id] 3)
  go_enter Tryz.func103, Tryz.ntmps103
  go_wp2_with fail
  go_loopw [22] (fun i wr => ∃ j : Nat, j ≤ q ∧ i = .int .i64 j ∧ (∀ x, x < j → okAt id was is_ l x = true) ∧ Same w wr ∧ Blk wr w.heap.size #[.int .i64 id]) (fun i _ => q - (intOf i).toNat)
  case atStart => exact ⟨0, Nat.zero_le _, rfl, (fun x h => by omega), M0.out, B0.out⟩
  case round =>
    obtain ⟨j, hj, rfl, ht, hM, hB⟩ := hrel
    have HT := Lib.hid ht
    have J := Lib.hid hM
    have HB := Lib.hid hB
    clear ht hM hB
    by_cases hlt : j < q
    · obtain ⟨t1, b1, ht1⟩ : ∃ p b, sectL is_ (j : Int) = (p, b) := ⟨_, _, rfl⟩
      obtain ⟨t2, b2, ht2⟩ : ∃ p b, sectL was (j : Int) = (p, b) := ⟨_, _, rfl⟩
      have X1 := Lib.hid (S1.out (j : Int) (by omega) (by omega))
      have X2 := Lib.hid (S2.out (j : Int) (by omega) (by omega))
      have hl1 := sectL_len is_ (j : Int)
      have EJ := Lib.hid (show okAt id was is_ l j = (decide (t1 = t2) || l.any (fun o => mayO o id (j : Int) t1)) by unfold okAt; rw [ht1, ht2])
      rw [ht1] at X1 hl1
      rw [ht2] at X2
      dsimp only at X1 X2 hl1
      have HAS := Lib.hid (fun w c4 c9 c10 hc hr => has126 l HF.out hll a n c HN.out c4 c9 c10 id (j : Int) (by omega) (by omega) t1 (by omega) w hc hr)
      clear ht1 ht2
      go_wp2_with fail
      refine (X1.out _).mono ?_
      rintro e w1 ⟨rfl, M⟩
      have J1 := Lib.hid (show Same w w1 from (J.out.alloc _).same M)
      have B4 := Lib.hid ((HB.out.alloc (.cells #[.int .i64 (j : Int)] 3)).mod M (fun q => q))
      have B9 := Lib.hid ((Blk.new wr #[.int .i64 (j : Int)] 3).mod M (fun q => q))
      have q9 := B9.out.at_ (i := 0) _ rfl
      have l9 := B9.out.lt
      clear M
      go_wp2_with fail
      refine (X2.out _).mono ?_
      rintro e w2 ⟨rfl, M⟩
      have J2 := Lib.hid (show Same w w2 from (J1.out.alloc _).same M)
      have B42 := Lib.hid ((B4.out.alloc (.cells #[strV t1] 9)).mod M (fun q => q))
      have B92 := Lib.hid ((B9.out.alloc (.cells #[strV t1] 9)).mod M (fun q => q))
      have B102 := Lib.hid ((Blk.new w1 #[strV t1] 9).mod M (fun q => q))
      have q10 := B102.out.at_ (i := 0) _ rfl
      have CC := Lib.hid (show Cap3 w2 w.heap.size wr.heap.size w1.heap.size id (j : Int) t1 from ⟨B42.out.at_ (i := 0) _ rfl, B92.out.at_ (i := 0) _ rfl, B102.out.at_ (i := 0) _ rfl, B42.out.lt, B92.out.lt, B102.out.lt⟩)
      have l10 := B102.out.lt
      unfold strV at q10
      clear M
      by_cases e3 : t1 = t2
      · subst e3
        have hb : (t1 != t1) = false := by simp
        go_wp2_with fail
        go_roundw
        case rel => exact ⟨j + 1, by omega, by go_num, (fun x hx => by
          by_cases e : x = j
          · rw [e, EJ.out]; simp
          · exact HT.out x (by omega)), J2.out, B42.out⟩
        case measure => simp [intOf]; omega
      · have hb : (t1 != t2) = true := by simpa using e3
        have hb2 : (t1 == t2) = false := by simpa using e3
        go_wp2_with fail
        refine (HAS.out _ _ _ _ CC.out (HRw.out.same J2.out)).mono ?_
        rintro e w3 ⟨rfl, M⟩
        have J3 := Lib.hid (show Same w w3 from J2.out.same M)
        have B43 := Lib.hid (B42.out.mod M (fun q => q))
        clear M
        cases hy : l.any (fun o => mayO o id (j : Int) t1) with
        | true =>
          go_wp2_with fail
          go_roundw
          case rel => exact ⟨j + 1, by omega, by go_num, (fun x hx => by
            by_cases e : x = j
            · rw [e, EJ.out, hy]; simp
            · exact HT.out x (by omega)), J3.out, B43.out⟩
          case measure => simp [intOf]; omega
        | false =>
          have hd : (List.range q).all (okAt id was is_ l) = false := by
            rw [List.all_eq_false]
            exact ⟨j, List.mem_range.2 hlt, by rw [EJ.out, hy]; simp [e3]⟩
          rw [hd] at HR
          go_wp2_with fail
          exact HR.out _ _ ⟨rfl, J3.out⟩
    · obtain rfl : j = q := by omega
      have hd : (List.range j).all (okAt id was is_ l) = true := by
        rw [List.all_eq_true]
        intro x hx
        exact HT.out x (List.mem_range.1 hx)
      rw [hd] at HR
      go_wp2
      exact HR.out _ _ ⟨rfl, J.out⟩
end Go.Proofs.YtlcepoagpocadaaGreatDoor
