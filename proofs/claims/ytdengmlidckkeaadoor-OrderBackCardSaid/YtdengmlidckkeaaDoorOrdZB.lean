import Derived.Test.YtdengmlidckkeaaDoorOrdZA
import Derived.Test.YtdengmlidckkeaaDoorOrdZ
set_option linter.unusedSimpArgs false
set_option linter.unusedVariables false
namespace Go.Proofs.YtdengmlidckkeaaDoor
open Go Go.RowKit

theorem any83 (W : World) (v : Value) : (Instr.typeAssert (.iface 83 v) 20 41 false).run Tryd.prog W = .ok (.iface 83 v) W := by kernel_rfl
theorem any62 (W : World) (v : Value) : (Instr.typeAssert (.iface 62 v) 20 41 false).run Tryd.prog W = .ok (.iface 62 v) W := by kernel_rfl
theorem any98 (W : World) (v : Value) : (Instr.typeAssert (.iface 98 v) 20 41 false).run Tryd.prog W = .ok (.iface 98 v) W := by kernel_rfl
theorem any99 (W : World) (v : Value) : (Instr.typeAssert (.iface 99 v) 20 41 false).run Tryd.prog W = .ok (.iface 99 v) W := by kernel_rfl
theorem any61 (W : World) (v : Value) : (Instr.typeAssert (.iface 61 v) 20 41 false).run Tryd.prog W = .ok (.iface 61 v) W := by kernel_rfl
theorem any100 (W : World) (v : Value) : (Instr.typeAssert (.iface 100 v) 20 41 false).run Tryd.prog W = .ok (.iface 100 v) W := by kernel_rfl
theorem any102 (W : World) (v : Value) : (Instr.typeAssert (.iface 102 v) 20 41 false).run Tryd.prog W = .ok (.iface 102 v) W := by kernel_rfl
theorem any104 (W : World) (v : Value) : (Instr.typeAssert (.iface 104 v) 20 41 false).run Tryd.prog W = .ok (.iface 104 v) W := by kernel_rfl
theorem any105 (W : World) (v : Value) : (Instr.typeAssert (.iface 105 v) 20 41 false).run Tryd.prog W = .ok (.iface 105 v) W := by kernel_rfl
theorem any57 (W : World) (v : Value) : (Instr.typeAssert (.iface 57 v) 20 41 false).run Tryd.prog W = .ok (.iface 57 v) W := by kernel_rfl
theorem any26 (W : World) (v : Value) : (Instr.typeAssert (.iface 26 v) 20 41 false).run Tryd.prog W = .ok (.iface 26 v) W := by kernel_rfl
theorem any106 (W : World) (v : Value) : (Instr.typeAssert (.iface 106 v) 20 41 false).run Tryd.prog W = .ok (.iface 106 v) W := by kernel_rfl
theorem any107 (W : World) (v : Value) : (Instr.typeAssert (.iface 107 v) 20 41 false).run Tryd.prog W = .ok (.iface 107 v) W := by kernel_rfl
theorem any109 (W : World) (v : Value) : (Instr.typeAssert (.iface 109 v) 20 41 false).run Tryd.prog W = .ok (.iface 109 v) W := by kernel_rfl
theorem any111 (W : World) (v : Value) : (Instr.typeAssert (.iface 111 v) 20 41 false).run Tryd.prog W = .ok (.iface 111 v) W := by kernel_rfl
theorem must_any (o : OW) (hf : o.form) (hfit : o.fits = true) (w : World) : Calls Tryd.prog 21 #[ordW o] w fun e w' => e = .returned (ordW o) ∧ Same w w' := by
  refine opq fun R HR => ?_
  have HP := Lib.hid (parts_all o hf)
  rw [hfit] at HP
  have hk := hf.lt
  unfold ordW at HP HR ⊢
  generalize ordC o = cs at *
  generalize (o.ns.map (Value.int .i64)).length = nn at *
  have hT : ∀ W, (Instr.typeAssert (.iface (kT o.k) (.agg cs)) 20 41 false).run Tryd.prog W = .ok (.iface (kT o.k) (.agg cs)) W := by
    intro W
    generalize o.k = k at *
    rcases kinds15 hk with rfl | rfl | rfl | rfl | rfl | rfl | rfl | rfl | rfl | rfl | rfl | rfl | rfl | rfl | rfl
    · exact any83 W (.agg cs)
    · exact any62 W (.agg cs)
    · exact any98 W (.agg cs)
    · exact any99 W (.agg cs)
    · exact any61 W (.agg cs)
    · exact any100 W (.agg cs)
    · exact any102 W (.agg cs)
    · exact any104 W (.agg cs)
    · exact any105 W (.agg cs)
    · exact any57 W (.agg cs)
    · exact any26 W (.agg cs)
    · exact any106 W (.agg cs)
    · exact any107 W (.agg cs)
    · exact any109 W (.agg cs)
    · exact any111 W (.agg cs)
  generalize kT o.k = T at *
  clear hk hf hfit
  go_enter Tryd.func21, Tryd.ntmps21
  go_wp2_with fail
  refine (HP.out _).mono ?_
  rintro e w1 ⟨a1, c1, a2, c2, rfl, r1, r2, M⟩
  have S1 := Lib.hid M
  clear r1 r2 M HP
  go_wp2
  exact HR.out _ _ ⟨rfl, S1.out⟩
instance (x y : OW) : Decidable (x = y) := if h : x.k = y.k ∧ x.ns = y.ns ∧ x.ts = y.ts then isTrue (OW.ext' h.1 h.2.1 h.2.2) else isFalse fun e => h (by subst e; exact ⟨rfl, rfl, rfl⟩)
/-- Two orders' form: the same. -/
theorem sameO_eq (x y : OW) : sameO ((x.k : Int) + 1) ((y.k : Int) + 1) x.ns y.ns x.ts y.ts = decide (x = y) := by
  unfold sameO
  by_cases h : x = y
  · subst h; simp
  · rw [decide_eq_false h]
    by_cases h1 : x.k = y.k
    · by_cases h2 : x.ns = y.ns
      · have h3 : ¬ x.ts = y.ts := fun h3 => h (OW.ext' h1 h2 h3)
        simp [h3]
      · simp [h2]
    · have : ¬ ((x.k : Int) + 1 = (y.k : Int) + 1) := by omega
      simp [this]
end Go.Proofs.YtdengmlidckkeaaDoor
