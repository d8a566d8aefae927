import Derived.Test.YteommjbbjdbhkaaSlotsC
import Derived.Test.YteommjbbjdbhkaaSlotsD
set_option linter.unusedSimpArgs false
set_option linter.unusedVariables false
namespace Go.Proofs.Yteommjbbjdbhkaa
open Go Go.RowKit
abbrev z0 : Nat → Int := fun _ => 0
theorem sawake_any (w : World) : Calls Try.prog 9 #[] w fun e w' => e = .returned (.bool true) ∧ Same w w' := by
  refine opq fun R HR => ?_
  go_enter Try.func9, Try.ntmps9
  go_wp2_with fail
  refine (new_any 2 _ (by omega)).mono ?_
  rintro e w1 ⟨P, g, rfl, hP, hg, hS, M⟩
  have J1 := Lib.hid hS
  have J2 := Lib.hid M
  clear hS M
  go_wp2_with fail
  refine (Take_any P g 2 z0 _ J1.out (by omega)).mono ?_
  rw [show takeV z0 2 2 = #[.int .i64 0, .int .i64 0] from rfl, show takeF z0 2 2 = upd z0 0 1 from rfl]
  rintro e w2 ⟨rfl, hS, M⟩
  have J3 := Lib.hid hS
  have J4 := Lib.hid (J2.out.then_ M (fun i h1 h2 => by omega))
  clear hS M J1 J2
  go_wp2_with fail
  refine (Take_any P g 2 _ _ J3.out (by omega)).mono ?_
  rw [show takeV (upd z0 0 1) 2 2 = #[.int .i64 0, .int .i64 5] from rfl, show takeF (upd z0 0 1) 2 2 = upd z0 0 1 from rfl]
  rintro e w3 ⟨rfl, hS, M⟩
  have J5 := Lib.hid hS
  have J6 := Lib.hid (J4.out.then_ M (fun i h1 h2 => by omega))
  clear hS M J3 J4
  go_wp2_with fail
  refine (Move_any P g 2 _ _ J5.out (by omega)).mono ?_
  rw [show takeV (upd z0 0 1) 2 1 = #[.int .i64 1, .int .i64 0] from rfl, show takeF (upd z0 0 1) 2 1 = upd (upd z0 0 1) 1 1 from rfl]
  rintro e w4 ⟨rfl, hS, M⟩
  have J7 := Lib.hid hS
  have J8 := Lib.hid (J6.out.then_ M (fun i h1 h2 => by omega))
  clear hS M J5 J6
  have k1 := Lib.hid (free_any P g 2 _ _ J7.out (by omega))
  rw [show cnt (upd (upd z0 0 1) 1 1) 0 2 = 0 from rfl] at k1
  have k2 := Lib.hid (len_any P g 2 _ _ J7.out)
  have k3 := Lib.hid (give_any P g 2 _ 1 _ J7.out (by omega))
  rw [show giveV (upd (upd z0 0 1) 1 1) 2 1 = 0 from rfl, show giveF (upd (upd z0 0 1) 1 1) 2 1 = upd (upd (upd z0 0 1) 1 1) 1 0 from rfl] at k3
  go_wp2_with fail
  refine k1.out.mono ?_
  rintro e w5 ⟨rfl, rfl⟩
  go_wp2_with fail
  refine k2.out.mono ?_
  rintro e w5 ⟨rfl, rfl⟩
  go_wp2_with fail
  refine k3.out.mono ?_
  rintro e w5 ⟨rfl, hS, M⟩
  have J9 := Lib.hid hS
  have J10 := Lib.hid (J8.out.then_ M (fun i h1 h2 => by omega))
  clear hS M J7 J8 k1 k2 k3
  have k4 := Lib.hid (waits_any P g 2 _ _ J9.out (by omega))
  rw [show cnt (upd (upd (upd z0 0 1) 1 1) 1 0) 3 2 = 0 from rfl] at k4
  go_wp2_with fail
  refine k4.out.mono ?_
  rintro e w6 ⟨rfl, rfl⟩
  go_wp2
  exact HR.out _ _ ⟨rfl, J10.out⟩
end Go.Proofs.Yteommjbbjdbhkaa
