import Derived.Test.YteommjbbjdbhkaaRankO
import Derived.Deep.RegionHeld3
import Derived.BigQuiet
import Derived.Deep.QuietTactic
set_option linter.unusedSimpArgs false
set_option linter.unusedVariables false
namespace Go.Proofs.Yteommjbbjdbhkaa
open Go Go.RowKit
/-- The first k items rise from 1 on. -/
def Asc (L : List It) (k : Nat) : Prop := ∀ i y, i < k → L[i]? = some y → 1 ≤ y.c ∧ ∀ j z, j < i → L[j]? = some z → z.c < y.c
theorem Asc.zero (L : List It) : Asc L 0 := fun i y h => by omega
theorem Asc.one {L : List It} {x : It} (hx : L[0]? = some x) (h : 1 ≤ x.c) : Asc L 1 := by
  intro i y hi hy
  obtain rfl : i = 0 := by omega
  rw [hx] at hy; cases hy
  exact ⟨h, fun j z hj => by omega⟩
theorem Asc.step {L : List It} {m : Nat} {x y : It} (ha : Asc L (m + 1)) (hy : L[m]? = some y) (hx : L[m + 1]? = some x) (h1 : 1 ≤ x.c) (h : y.c < x.c) : Asc L (m + 1 + 1) := by
  intro i z hi hz
  by_cases e : i = m + 1
  · subst e
    rw [hx] at hz; cases hz
    refine ⟨h1, fun j u hj hu => ?_⟩
    by_cases e : j = m
    · subst e; rw [hy] at hu; cases hu; exact h
    · exact Int.lt_trans ((ha m y (by omega) hy).2 j u (by omega) hu) h
  · exact ha i z (by omega) hz
set_option maxHeartbeats 8000000 in
theorem form_any (a : Option Addr) (cap : Nat) (L : List It) (w : World) (hl : L.length ≤ 1000) (hI : Its w a L) :
    Calls Try.prog 26 #[.slice a L.length cap] w fun e w' => ∃ v b, e = .returned (.tuple #[v, .bool b]) ∧ Same w w' ∧ (b = true → Asc L L.length ∧ ∃ a' c', v = .slice a' L.length c' ∧ Its w' a' L) := by
  refine opq fun R HR => ?_
  have HI := Lib.hid hI
  clear hI
  obtain ⟨i0, hi, hz0, hz1, hz2⟩ := info_parts info63
  have HI0 := Lib.hid hi
  have HZ0 := Lib.hid hz0
  have HZ1 := Lib.hid hz1
  have HZ2 := Lib.hid hz2
  clear hi hz0 hz1 hz2
  obtain ⟨n, hn⟩ : ∃ n, L.length = n := ⟨_, rfl⟩
  rw [hn] at hl HR ⊢
  have HN := Lib.hid hn
  clear hn
  go_enter Try.func26, Try.ntmps26
  go_wp2_with fail
  go_loopw [5, 4] (fun i v wr => ∃ k : Nat, k ≤ n ∧ i = .int .i64 k ∧ Asc L k ∧ wr.ownsRow w.heap.size 63 5 v (L.take k).length ((L.take k).flatMap itC) ∧ Same w wr) (fun i _ _ => n - (intOf i).toNat)
  case atStart => exact ⟨0, by omega, rfl, Asc.zero L, empty_owns w _ _ (Nat.le_refl _), (Mod.refl _ _).alloc _⟩
  case round =>
    obtain ⟨k, hk, rfl, hasc, hown, M⟩ := hrel
    by_cases hlt : k < n
    · obtain ⟨b1, o1, rfl, hb1, hc1⟩ := HI.out (by rw [HN.out]; omega)
      have hkL : k < L.length := by rw [HN.out]; exact hlt
      obtain ⟨x, hx⟩ : ∃ x, L[k]? = some x := ⟨_, List.getElem?_eq_getElem hkL⟩
      have htk : L.take (k + 1) = L.take k ++ [x] := by rw [List.take_add_one, hx]; rfl
      have HC5 := Lib.hid (fun (W : World) (MM : Same w W) (i : Nat) (y : It) (hy : L[i]? = some y) => cells5 (x := y) MM hb1 (hc1 i y hy))
      obtain ⟨e0, e1, e2, e3, e4⟩ := HC5.out _ M k x hx
      have HX := Lib.hid hx
      have HT := Lib.hid htk
      have HA := Lib.hid hasc
      have hfl : (L.take k).length ≤ k := List.length_take_le _ _
      have J1 := Lib.hid hown
      have J2 := Lib.hid M
      have hsz : w.heap.size ≤ wr.heap.size := M.size
      clear hc1 hx htk hown M hasc
      obtain ⟨xc, xh, xt, xp, xb⟩ := x
      by_cases h1 : xc < 1
      · go_wp2_with fail
        go_big_quiet (fail)
        go_wp2
        exact HR.out _ _ ⟨_, _, rfl, J2.out.drewN _, fun q => by cases q⟩
      · have h1' : 1 ≤ xc := by omega
        have hg1 : decide (xc < 1) = false := decide_eq_false h1
        rcases Nat.eq_zero_or_pos k with hk0 | hpos
        · have HA' := Lib.hid (show Asc L (k + 1) by subst hk0; exact Asc.one HX.out h1')
          have hg2 : decide ((0 : Int) < (k : Int)) = false := decide_eq_false (by omega)
          have hg3 : decide (0 < k) = false := decide_eq_false (by omega)
          clear hk0
          go_wp2_with fail
          go_big_quiet (fail)
          obtain ⟨W, hW⟩ : ∃ W, wr.drewN nq = W := ⟨_, rfl⟩
          have J3 := Lib.hid (show Same w W by rw [← hW]; exact J2.out.drewN _)
          have J4 := Lib.hid (owns_same J1.out (w' := W) (by rw [← hW]; exact (Mod.refl _ _).drewN _))
          rw [hW]
          clear hW J1 J2 e0 e1 e2 e3 e4
          obtain ⟨e0, e1, e2, e3, e4⟩ := HC5.out _ J3.out k _ HX.out
          go_wp2_with fail
          have hll : (L.take (k)).length + 1 ≤ maxLen := by unfold maxLen; omega
          have hlm : ((L.take (k)).length + 1) * 32 ≤ 140737488355328 := by omega
          have hsW : w.heap.size ≤ W.heap.size := J3.out.size
          generalize hlz : (L.take (k)).length = lz at *
          go_region_held3 (fun w' => w'.cell? ⟨b1, o1 + k * 5, none⟩ = some (.int .i64 xc) ∧ w'.cell? ⟨b1, o1 + k * 5 + 1, none⟩ = some (.int .i64 xh) ∧ w'.cell? ⟨b1, o1 + k * 5 + 2, none⟩ = some (.int .i64 xt) ∧ w'.cell? ⟨b1, o1 + k * 5 + 3, none⟩ = some (.bool xp) ∧ w'.cell? ⟨b1, o1 + k * 5 + 4, none⟩ = some (.bool xb)) (first | exact ⟨e0, e1, e2, e3, e4⟩ | assumption | go_keep) ((first | (refine step_append_lies _ rfl (.tmp 37) (.tmp 64) 42 rfl w.heap.size 63 i0 (.agg #[.int .i64 0, .int .i64 0, .int .i64 0, .bool false, .bool false]) 5 32 Try.underlying42 HI0.out HZ0.out HZ1.out HZ2.out rfl (by decide) _ _ _ (by simp [Act.eval, Act.put]) (J4.out.drew.alloc _) ⟨W.heap.size, 0, none⟩ 1 1 (itC ⟨xc, xh, xt, xp, xb⟩) (by simp [Act.eval, Act.put]) rfl (new5 _ ⟨xc, xh, xt, xp, xb⟩ _) (fun u hu => (by simp at hu; rcases hu with rfl | rfl | rfl | rfl | rfl <;> rfl)) (by decide) hll hlm (by simp [World.size_alloc]; omega) (W.heap.size + 1) (by simp) ?_; intro g cp w6 hown' hgrow hat hgl; have q6 := HC5.out _ (same_append J3.out.drew J4.out.drew hgrow) k _ HX.out)))
          have J7 := Lib.hid (same_append (J3.out.drew) J4.out.drew hgrow)
          have J8 := Lib.hid hown'
          clear hown' hgrow hat
          go_wp2
          go_roundw
          case rel => exact ⟨k + 1, by omega, by go_num, HA'.out, by rw [HT.out, List.length_append, List.flatMap_append, hlz]; exact J8.out, J7.out⟩
          case measure => simp [intOf]; omega
        · obtain ⟨m, hkm⟩ : ∃ m, k = m + 1 := ⟨k - 1, by omega⟩
          obtain ⟨y, hy⟩ : ∃ y, L[m]? = some y := ⟨_, List.getElem?_eq_getElem (by omega)⟩
          obtain ⟨y0, _, _, _, _⟩ := HC5.out _ J2.out m y hy
          have hw : IntKind.i64.wrap ((k : Int) - 1) = (m : Int) := by rw [show ((k : Int) - 1) = (m : Int) by omega]; exact IntWalk.i64_in _ (by omega)
          have hg2 : decide ((0 : Int) < (k : Int)) = true := decide_eq_true (by omega)
          have hg3 : decide (0 < k) = true := decide_eq_true (by omega)
          have hmn : m < n := by omega
          have hst : xc ≤ y.c ∨ Asc L (k + 1) := by
            by_cases q : xc ≤ y.c
            · exact .inl q
            · right; subst hkm; exact HA.out.step hy HX.out h1' (by show y.c < xc; omega)
          have HSt := Lib.hid hst
          clear hkm hst hy
          generalize y.c = yc at *
          by_cases hlt2 : xc ≤ yc
          · go_wp2_with fail
            go_big_quiet (fail)
            go_wp2
            exact HR.out _ _ ⟨_, _, rfl, J2.out.drewN _, fun q => by cases q⟩
          · have HA' := Lib.hid (HSt.out.resolve_left hlt2)
            go_wp2_with fail
            go_big_quiet (fail)
            obtain ⟨W, hW⟩ : ∃ W, wr.drewN nq = W := ⟨_, rfl⟩
            have J3 := Lib.hid (show Same w W by rw [← hW]; exact J2.out.drewN _)
            have J4 := Lib.hid (owns_same J1.out (w' := W) (by rw [← hW]; exact (Mod.refl _ _).drewN _))
            rw [hW]
            clear hW J1 J2 e0 e1 e2 e3 e4 y0 hw hg2 hg3 hmn HSt
            try clear m
            try skip
            obtain ⟨e0, e1, e2, e3, e4⟩ := HC5.out _ J3.out k _ HX.out
            go_wp2_with fail
            have hll : (L.take (k)).length + 1 ≤ maxLen := by unfold maxLen; omega
            have hlm : ((L.take (k)).length + 1) * 32 ≤ 140737488355328 := by omega
            have hsW : w.heap.size ≤ W.heap.size := J3.out.size
            generalize hlz : (L.take (k)).length = lz at *
            go_region_held3 (fun w' => w'.cell? ⟨b1, o1 + k * 5, none⟩ = some (.int .i64 xc) ∧ w'.cell? ⟨b1, o1 + k * 5 + 1, none⟩ = some (.int .i64 xh) ∧ w'.cell? ⟨b1, o1 + k * 5 + 2, none⟩ = some (.int .i64 xt) ∧ w'.cell? ⟨b1, o1 + k * 5 + 3, none⟩ = some (.bool xp) ∧ w'.cell? ⟨b1, o1 + k * 5 + 4, none⟩ = some (.bool xb)) (first | exact ⟨e0, e1, e2, e3, e4⟩ | assumption | go_keep) ((first | (refine step_append_lies _ rfl (.tmp 37) (.tmp 64) 42 rfl w.heap.size 63 i0 (.agg #[.int .i64 0, .int .i64 0, .int .i64 0, .bool false, .bool false]) 5 32 Try.underlying42 HI0.out HZ0.out HZ1.out HZ2.out rfl (by decide) _ _ _ (by simp [Act.eval, Act.put]) (J4.out.drew.alloc _) ⟨W.heap.size, 0, none⟩ 1 1 (itC ⟨xc, xh, xt, xp, xb⟩) (by simp [Act.eval, Act.put]) rfl (new5 _ ⟨xc, xh, xt, xp, xb⟩ _) (fun u hu => (by simp at hu; rcases hu with rfl | rfl | rfl | rfl | rfl <;> rfl)) (by decide) hll hlm (by simp [World.size_alloc]; omega) (W.heap.size + 1) (by simp) ?_; intro g cp w6 hown' hgrow hat hgl; have q6 := HC5.out _ (same_append J3.out.drew J4.out.drew hgrow) k _ HX.out)))
            have J7 := Lib.hid (same_append (J3.out.drew) J4.out.drew hgrow)
            have J8 := Lib.hid hown'
            clear hown' hgrow hat
            go_wp2
            go_roundw
            case rel => exact ⟨k + 1, by omega, by go_num, HA'.out, by rw [HT.out, List.length_append, List.flatMap_append, hlz]; exact J8.out, J7.out⟩
            case measure => simp [intOf]; omega
    · obtain rfl : k = n := by omega
      have hall : L.take k = L := List.take_of_length_le (by rw [HN.out]; exact Nat.le_refl _)
      rw [hall] at hown
      obtain ⟨a', c', rfl, hits⟩ := its_own hown
      rw [HN.out]
      have J1 := Lib.hid hits
      have J2 := Lib.hid M
      have J3 := Lib.hid hasc
      clear hown hits M hall hasc
      go_wp2
      exact HR.out _ _ ⟨_, _, rfl, J2.out, fun _ => ⟨J3.out, _, _, rfl, J1.out⟩⟩
end Go.Proofs.Yteommjbbjdbhkaa
