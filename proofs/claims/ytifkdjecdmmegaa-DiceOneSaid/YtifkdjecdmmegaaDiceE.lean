import Derived.Test.YtifkdjecdmmegaaDiceB
import Derived.Test.YtifkdjecdmmegaaDiceD
set_option linter.unusedSimpArgs false
set_option linter.unusedVariables false
namespace Go.Proofs.Ytifkdjecdmmegaa
open Go Go.RowKit
def NewDie (w : World) (s : Int) (e : Ending) (w' : World) : Prop := ∃ g, e = .returned (dptr g) ∧ w.heap.size ≤ g ∧ DS w' g s ∧ Same w w'
theorem dnew_any (s : Int) (w : World) : Calls Try.prog 31 #[.int .u64 s] w (NewDie w s) := by
  refine opq fun R HR => ?_
  go_enter Try.func31, Try.ntmps31
  go_wp2
  exact HR.out _ _ ⟨w.heap.size, rfl, Nat.le_refl _, Blk.new _ _ _, (Mod.refl _ _).alloc _⟩
theorem dshuffle_nil (n : Int) (w : World) : Calls Try.prog 39 #[.pointer none, .int .i64 n] w fun e w' => e = .returned (.slice none 0 0) ∧ w = w' := by
  refine opq fun R HR => ?_
  go_enter Try.func39, Try.ntmps39
  go_wp2
  exact HR.out _ _ ⟨rfl, rfl⟩
theorem dshuffle_low (D : Nat) (s n : Int) (w : World) (h : DS w D s) (hn : n ≤ 0) :
    Calls Try.prog 39 #[dptr D, .int .i64 n] w (Shuffled w D 0 iotaF s) := by
  refine opq fun R HR => ?_
  have H := Lib.hid h
  clear h
  obtain ⟨i0, hi, hz0, hz1, hz2⟩ := info_parts info3
  have hz2' : i0.bytes * 0 ≤ 281474976710656 := by omega
  have HI := Lib.hid hi
  have HZ0 := Lib.hid hz0
  have HZ1 := Lib.hid hz1
  clear hi hz0 hz1 hz2
  rcases Int.lt_or_eq_of_le hn with h1 | rfl
  all_goals
    go_enter Try.func39, Try.ntmps39
    go_wp2_with (at_make; refine wpList_make_full w rfl _ _ 40 rfl w.heap.size 3 i0 (.int .i64 0) 1 Try.underlying40 HI.out HZ0.out HZ1.out .i64 .i64 _ _ 0 rfl rfl rfl rfl hz2' (Nat.zero_le _) (Nat.le_refl _) ?_; intro w1 hown hgrow)
    have M : Mod (fun i => i = D) w w1 := (Mod.refl _ w).grown hgrow (fun k hk => by cases hk)
    have hD : DS w1 D s := H.out.mod ((Mod.refl (fun _ => False) w).grown hgrow (fun k hk => by cases hk)) (fun q => q)
    have J1 := Lib.hid M
    have J2 := Lib.hid hD
    clear hgrow hown M hD
    go_wp2_with fail
    go_rounds 1
    go_rounds 1
    exact HR.out _ _ ⟨_, _, rfl, fun h => absurd h (by omega), J2.out, J1.out⟩
theorem rdshuffle_low (D : Nat) (s n : Int) (w : World) (h : DS w D s) (hn : n ≤ 0) :
    Calls Try.prog 40 #[dptr D, .int .i64 n] w (Shuffled w D 0 iotaF s) := by
  refine opq fun R HR => ?_
  have J2 := Lib.hid (h.alloc (.cells #[] 3))
  clear h
  go_enter Try.func40, Try.ntmps40
  go_wp2_with fail
  go_rounds 1
  go_rounds 1
  exact HR.out _ _ ⟨_, _, rfl, fun h => absurd h (by omega), J2.out, (Mod.refl _ _).alloc _⟩
theorem dweigh_nil (b : Nat) (c : Nat) (w : World) (hc : w.cell? ⟨b, 0, none⟩ = some (.int .i64 1)) : Calls Try.prog 37 #[.pointer none, .slice (some ⟨b, 0, none⟩) 1 c] w fun e w' => e = .returned (.int .i64 0) ∧ w = w' := by
  refine opq fun R HR => ?_
  go_enter Try.func37, Try.ntmps37
  go_wp2_with fail
  go_rounds 2
  go_rounds 1
  exact HR.out _ _ ⟨rfl, rfl⟩
theorem ints2 (w : World) (D : Nat) (hD : D < w.heap.size) (a b : Int) : IntsAt (w.alloc (.cells #[.int .i64 a, .int .i64 b] 3)) D (some ⟨w.heap.size, 0, none⟩) 2 (fun i => if i = 0 then a else b) := by
  intro _
  refine ⟨w.heap.size, 0, rfl, by simp, by omega, fun i hi => ?_⟩
  have : i = 0 ∨ i = 1 := by omega
  rcases this with rfl | rfl <;> simp [go_sem]
theorem first_mix : mixF (stF 0) = 16294208416658607535 := by decide +kernel
set_option maxHeartbeats 1000000 in
theorem dawake_any (w : World) : Calls Try.prog 30 #[] w fun e w' => e = .returned (.bool true) ∧ Same w w' := by
  refine opq fun R HR => ?_
  go_enter Try.func30, Try.ntmps30
  go_wp2_with fail
  refine (dnew_any _ _).mono ?_
  rintro e w1 ⟨g, rfl, hg, hB, M⟩
  go_wp2_with fail
  refine (dnext_any g 0 _ hB ⟨by omega, by omega⟩).mono ?_
  have hu := stF_u 0
  rw [first_mix]
  generalize stF 0 = t at *
  rintro e w2 ⟨rfl, hB2, M2⟩
  replace M := M.then_ M2 (fun i h1 h2 => by omega)
  clear hB M2
  have J1 := Lib.hid hB2
  have J2 := Lib.hid M
  clear hB2 M
  go_wp2_with fail
  refine (dbelow_any g t 1 _ J1.out hu (by omega)).mono ?_
  rw [show belV 1 t = 0 from rfl, show belS 1 t = t from rfl]
  rintro e w3 ⟨rfl, hB3, M3⟩
  have J3 := Lib.hid hB3
  have J4 := Lib.hid (J2.out.then_ M3 (fun i h1 h2 => by omega))
  clear hB3 M3 J1 J2
  go_wp2_with fail
  refine (dweigh_any g t _ 2 _ _ _ (J3.out.alloc _) hu (by omega) (ints2 w3 g J3.out.lt 0 (-5))).mono ?_
  rw [show weighV (fun i => if i = 0 then (0 : Int) else -5) 2 t = -1 from rfl, show weighS (fun i => if i = 0 then (0 : Int) else -5) 2 t = t from rfl]
  rintro e w4 ⟨rfl, hB4, M4⟩
  have J5 := Lib.hid hB4
  have J6 := Lib.hid ((J4.out.alloc _).then_ M4 (fun i h1 h2 => by omega))
  clear hB4 M4 J3 J4
  go_wp2_with fail
  refine (dshuffle_any g t 3 _ J5.out hu (by omega)).mono ?_
  rintro e w5 ⟨a, c, rfl, _, _, M5⟩
  have J7 := Lib.hid (J6.out.then_ M5 (fun i h1 h2 => by omega))
  clear M5
  go_wp2
  exact HR.out _ _ ⟨rfl, J7.out⟩
end Go.Proofs.Ytifkdjecdmmegaa
