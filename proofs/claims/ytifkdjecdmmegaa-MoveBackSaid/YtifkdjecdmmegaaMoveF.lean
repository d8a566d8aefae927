import Derived.Test.YtifkdjecdmmegaaMoveE
namespace Go.Proofs.Ytifkdjecdmmegaa
open Go Go.RowKit
set_option maxHeartbeats 4000000 in
theorem moveBack_walk (c ft fs tt ts : Int) (w : World) :
    Calls Try.prog 5 #[.int .i64 c, sp ft fs, sp tt ts] w fun e w' => e = .returned (.bool true) ∧ Below w.heap.size w w' := by
  refine opq fun R HR => ?_
  have hsym : newB c ft fs tt ts = newB c tt ts ft fs := by
    unfold newB; rw [Bool.eq_iff_iff]; simp; constructor <;> (intro h; simp [h]; exact fun h' => h.2 h'.symm)
  rcases hn : newB c ft fs tt ts with _ | _
  all_goals
    first
    | have hv : newV c ft fs tt ts = #[mv 0 0 0 0 0 0, .int .i64 1] := by simp [newV, hn]
      have hv2 : newV c tt ts ft fs = #[mv 0 0 0 0 0 0, .int .i64 1] := by simp [newV, ← hsym, hn]
      have hx : True := trivial
    | have hv : newV c ft fs tt ts = #[mv c ft fs tt ts 1, .int .i64 0] := by simp [newV, hn]
      have hv2 : newV c tt ts ft fs = #[mv c tt ts ft fs 1, .int .i64 0] := by simp [newV, ← hsym, hn]
      have hx : (ft != tt) = true := by simp [newB] at hn; simp [hn]
    have HV := Lib.hid hv
    have HV2 := Lib.hid hv2
    clear hn hv hsym hv2
    go_enter Try.func5, Try.ntmps5
    go_wp2_with fail
    refine (awake_any _).mono ?_
    rintro e w1 ⟨rfl, hb⟩
    have k1 := keepc hb w.heap.size #[.int .i64 ft, .int .i64 fs] (by intro i; simp [go_sem]) (by simp <;> omega)
    have k2 := keepc hb (w.heap.size+1) #[.int .i64 tt, .int .i64 ts] (by intro i; simp [go_sem]) (by simp <;> omega)
    have y2 : w.heap.size + 1 < w1.heap.size := by have := hb.size; simp at this; omega
    have B : Below w.heap.size w w1 := (((Below.refl _ _).alloc (Nat.le_refl _) _).alloc (by simp) _).trans (hb.mono (by simp; omega))
    have y1 : w.heap.size < w1.heap.size := by omega
    clear hb
    go_wp2_with fail
    refine (new_any _ _ _ _ _ _).mono ?_
    rintro e w2 ⟨rfl, hb⟩
    rw [HV.out]
    replace k1 := keepc hb _ _ k1 y1
    replace k2 := keepc hb _ _ k2 y2
    replace y1 := Nat.lt_of_lt_of_le y1 hb.size
    replace y2 := Nat.lt_of_lt_of_le y2 hb.size
    replace B := bstep B hb
    clear hb
    go_wp2_with fail
    refine (new_any _ _ _ _ _ _).mono ?_
    rintro e w3 ⟨rfl, hb⟩
    rw [HV2.out]
    have k3 := keepc hb w2.heap.size _ (fun i => World.cell?_alloc_new _ _ _ _) (by simp <;> omega)
    replace k1 := keepc hb w.heap.size #[.int .i64 ft, .int .i64 fs] (by intro i; simp [go_sem, k1, y1]) (by simp <;> omega)
    replace k2 := keepc hb (w.heap.size+1) #[.int .i64 tt, .int .i64 ts] (by intro i; simp [go_sem, k2, y2]) (by simp <;> omega)
    have y3 : w2.heap.size < w3.heap.size := by have := hb.size; simp at this; omega
    replace y1 : w.heap.size < w3.heap.size := by have := hb.size; simp at this; omega
    replace y2 : w.heap.size + 1 < w3.heap.size := by have := hb.size; simp at this; omega
    replace B := bstep (B.alloc B.size _) hb
    clear hb
    go_wp2
    all_goals (first | go_ret | skip)
    exact HR.out _ _ ⟨rfl, B.alloc B.size _⟩
end Go.Proofs.Ytifkdjecdmmegaa
