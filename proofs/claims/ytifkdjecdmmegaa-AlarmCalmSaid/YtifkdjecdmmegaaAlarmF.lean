import Derived.Test.YtifkdjecdmmegaaAlarmC
import Derived.Test.YtifkdjecdmmegaaAlarmA
set_option linter.unusedSimpArgs false
set_option linter.unusedVariables false
namespace Go.Proofs.Ytifkdjecdmmegaa
open Go Go.RowKit
theorem nextA_bd (w f b st u a : Int) : 0 ≤ nextA w f b st u a ∧ nextA w f b st u a ≤ 2 := by
  unfold nextA; split <;> (try split) <;> omega
/-- What Tell leaves: the state n, the count r. -/
def Told (w : World) (A : Nat) (wm fm bk st n r : Int) (e : Ending) (w' : World) : Prop :=
  e = .returned (.tuple #[.int .i64 n, .bool (n != st)]) ∧ Blk w' A (alc wm fm bk n r) ∧ Mod (fun i => i = A) w w'
def rungF (st n rg : Int) : Int := if st < n then rg + 1 else rg
set_option maxHeartbeats 1000000 in
theorem tell_any (A : Nat) (wm fm bk st rg u a : Int) (w : World) (h : Blk w A (alc wm fm bk st rg))
    (hg : goodI wm fm bk) (hst : 0 ≤ st ∧ st ≤ 2) (hr : 0 ≤ rg ∧ rg ≤ 4611686018427387904) :
    Calls Try.prog 25 #[ptr A, .int .i64 u, .int .i64 a] w (Told w A wm fm bk st (nextA wm fm bk st (clF u) (clF a)) (rungF st (nextA wm fm bk st (clF u) (clF a)) rg)) := by
  refine opq fun R HR => ?_
  have hn := nextA_bd wm fm bk st (clF u) (clF a)
  have hu := cl_bd u
  have ha := cl_bd a
  have hN := nextA_any A wm fm bk st rg (clF u) (clF a) w h.lt h.cell hg hst hu ha
  generalize nextA wm fm bk st (clF u) (clF a) = n at *
  rcases cl_cases u with ⟨u1, hu'⟩ | ⟨u1, u2, hu'⟩ | ⟨u1, hu'⟩
  all_goals rcases cl_cases a with ⟨a1, ha'⟩ | ⟨a1, a2, ha'⟩ | ⟨a1, ha'⟩
  all_goals
    rw [hu', ha'] at hN
    clear hu' ha'
    have HN := Lib.hid hN
    clear hN
    have hc := h.cell
    go_enter Try.func25, Try.ntmps25
    go_wp2_with fail
    refine HN.out.mono ?_
    rintro e w1 ⟨rfl, hb⟩
    have M : Mod (fun i => i = A) w w1 := Mod.of_below hb (fun i h1 h2 => by omega)
    have h1 := h.mod (Same.of_below hb) (fun q => q)
    clear hb hc h
    have hc := h1.cell
    have hf := h1.free
    by_cases hlt : st < n
    · have hrf : rungF st n rg = rg + 1 := if_pos hlt
      rw [hrf] at HR
      clear hrf
      go_wp2
      go_quiet (fail)
      go_wp2
      exact HR.out _ _ ⟨rfl, ((h1.set 3 (.int .i64 n)).set 4 (.int .i64 (rg + 1))).drewN _, ((M.setCell (fun _ => rfl) _).setCell (fun _ => rfl) _).drewN _⟩
    · have hrf : rungF st n rg = rg := if_neg hlt
      rw [hrf] at HR
      clear hrf
      go_wp2
      go_quiet (fail)
      go_wp2
      exact HR.out _ _ ⟨rfl, (h1.set 3 (.int .i64 n)).drewN _, (M.setCell (fun _ => rfl) _).drewN _⟩
end Go.Proofs.Ytifkdjecdmmegaa
