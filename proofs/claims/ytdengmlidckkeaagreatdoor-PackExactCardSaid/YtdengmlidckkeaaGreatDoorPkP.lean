import Derived.Test.YtdengmlidckkeaaGreatDoorPkG
import Derived.Test.YtdengmlidckkeaaGreatDoorPkI
import Derived.Deep.AppendLies
import Derived.Test.YtdengmlidckkeaaGreatDoorPkZ
import Derived.Test.YtdengmlidckkeaaGreatDoorChecked
import Derived.WalkKit
import Derived.OpenShut
import Derived.WideShapes
import Derived.ChangeSame
import Derived.Lib.SmallJoins
import Derived.Deep.Slices
import Derived.Test.YtdengmlidckkeaaGreatDoorOrdV
import Derived.Test.YtdengmlidckkeaaGreatDoorRows
import Derived.Test.YtdengmlidckkeaaGreatDoorTie
import Derived.Test.YtdengmlidckkeaaGreatDoorCards
import Derived.ProofKit
import Derived.LaidMore
import Derived.ShutString
import Derived.ChangeOld
import Derived.Below
import Derived.Stop.Joined
import Derived.Stop.LaidErr
import Derived.SevenTiedAt
import Derived.Lay
import Derived.PinnedBridge
import Derived.Lib.LaidU8T
import Derived.Shelf.Vars
import Derived.Test.YtdengmlidckkeaaGreatDoorOrdZA
import Derived.Laws.OwnMore
import Derived.OwnWalk
set_option linter.unusedSimpArgs false
set_option linter.unusedVariables false
namespace Go.Proofs.YtdengmlidckkeaaGreatDoor
open Go Go.RowKit
theorem refSize_any (n : Int) (w : World) : Calls Tryz.prog 47 #[.int .i64 n] w fun e w' => e = .returned (.int .i64 (min (max n 1) 8)) ∧ w' = w := by
  refine opq fun R HR => ?_
  go_enter Tryz.func47, Tryz.ntmps47
  go_wp2
  exact HR.out _ _ ⟨rfl, rfl⟩
set_option maxRecDepth 10000 in
set_option maxHeartbeats 4000000 in
theorem refB_any (n sz : Int) (hn : U64 n) (k : Nat) (hk : min (max sz 1) 8 = (k : Int)) (w : World) : Calls Tryz.prog 21 #[.int .u64 n, .int .i64 sz] w fun e w' => e = .returned (.string ⟨(leB n k).toArray⟩) ∧ Same w w' := by
  refine opq fun R HR => ?_
  have hk1 : 1 ≤ k := by omega
  have hk8 : k ≤ 8 := by omega
  have HS := Lib.hid (fun w => refSize_any sz w)
  rw [hk] at HS
  obtain ⟨i0, hi, hz0, hz1, hz2⟩ := info_parts info5
  have I0 := Lib.hid hi
  have Z0 := Lib.hid hz0
  have Z1 := Lib.hid hz1
  have Z2 := Lib.hid hz2
  obtain ⟨hn0, hn1⟩ := hn
  clear hi hz0 hz1 hz2 hk
  go_enter Tryz.func21, Tryz.ntmps21
  go_wp2_with fail
  go_loopw [5, 6] (fun v i wr => ∃ j : Nat, j ≤ k ∧ i = .int .i64 (j : Int) ∧ wr.ownsRow w.heap.size 5 1 v j (Lib.byteCells (leB n j)) ∧ Same w wr) (fun _ i _ => k - (intOf i).toNat)
  case atStart => exact ⟨0, by omega, rfl, ⟨rfl, .inr ⟨_, 0, #[], rfl, Nat.le_refl _, heap_new _ _, Nat.le_refl _, by unfold maxLen; omega, rfl, rfl⟩⟩, (Mod.refl _ _).alloc _⟩
  case round =>
    obtain ⟨j, hj, rfl, hown, hM⟩ := hrel
    have K1 := Lib.hid hown
    have K2 := Lib.hid hM
    have hsz := hM.size
    clear hown hM
    have HS1 := Lib.hid (HS.out wr)
    by_cases hlt : j < k
    · have E := Lib.hid (put_cells [] n j)
      simp only [List.nil_append] at E
      have hll : j + 1 ≤ maxLen := by unfold maxLen; omega
      have hlm : (j + 1) * 1 ≤ 140737488355328 := by omega
      have hjk : j = 0 ∨ j = 1 ∨ j = 2 ∨ j = 3 ∨ j = 4 ∨ j = 5 ∨ j = 6 ∨ j = 7 := by omega
      rcases hjk with rfl | rfl | rfl | rfl | rfl | rfl | rfl | rfl
      · have EV := Lib.hid (show (n / 256 ^ 0 : Int) = n by rw [Int.pow_zero, Int.ediv_one])
        rw [EV.out] at E
        go_wp2_with fail
        refine HS1.out.mono ?_
        rintro e wq ⟨rfl, rfl⟩
        have hjlt : ((0 : Nat) : Int) < (k : Int) := by omega
        go_wp2_with (at_builtin; refine wpList_append_own _ rfl (.tmp 14) (.tmp 20) 64 rfl w.heap.size 5 i0 (.int .u8 0) 1 1 Tryz.underlying64 I0.out Z0.out Z1.out Z2.out rfl (by decide) _ _ _ rfl (K1.out.alloc _) ⟨wq.heap.size, 0, none⟩ 1 1 [.int .u8 (IntKind.u8.wrap n)] rfl rfl (one_new _ _ _) (fun u hu => (by simp at hu; subst hu; rfl)) hll hlm (by simp only [World.size_alloc]; omega) ?_; intro v' w3 hown' hgrow _)
        have P1 := Lib.hid (same_append K2.out K1.out hgrow)
        have P2 := Lib.hid hown'
        clear hown' hgrow
        go_roundw
        case rel => exact ⟨0 + 1, by omega, by first | rfl | go_num, by rw [E.out]; exact P2.out, P1.out⟩
        case measure => simp [intOf]; omega
      · have EV := Lib.hid (show (n / 256 ^ 1 : Int) = n / 256 by rfl)
        rw [EV.out] at E
        go_wp2_with fail
        refine HS1.out.mono ?_
        rintro e wq ⟨rfl, rfl⟩
        have hjlt : ((1 : Nat) : Int) < (k : Int) := by omega
        go_wp2_with (at_builtin; refine wpList_append_own _ rfl (.tmp 14) (.tmp 20) 64 rfl w.heap.size 5 i0 (.int .u8 0) 1 1 Tryz.underlying64 I0.out Z0.out Z1.out Z2.out rfl (by decide) _ _ _ rfl (K1.out.alloc _) ⟨wq.heap.size, 0, none⟩ 1 1 [.int .u8 (IntKind.u8.wrap (n / 256))] rfl rfl (one_new _ _ _) (fun u hu => (by simp at hu; subst hu; rfl)) hll hlm (by simp only [World.size_alloc]; omega) ?_; intro v' w3 hown' hgrow _)
        have P1 := Lib.hid (same_append K2.out K1.out hgrow)
        have P2 := Lib.hid hown'
        clear hown' hgrow
        go_roundw
        case rel => exact ⟨1 + 1, by omega, by first | rfl | go_num, by rw [E.out]; exact P2.out, P1.out⟩
        case measure => simp [intOf]; omega
      · have EV := Lib.hid (show (n / 256 ^ 2 : Int) = n / 65536 by rfl)
        rw [EV.out] at E
        go_wp2_with fail
        refine HS1.out.mono ?_
        rintro e wq ⟨rfl, rfl⟩
        have hjlt : ((2 : Nat) : Int) < (k : Int) := by omega
        go_wp2_with (at_builtin; refine wpList_append_own _ rfl (.tmp 14) (.tmp 20) 64 rfl w.heap.size 5 i0 (.int .u8 0) 1 1 Tryz.underlying64 I0.out Z0.out Z1.out Z2.out rfl (by decide) _ _ _ rfl (K1.out.alloc _) ⟨wq.heap.size, 0, none⟩ 1 1 [.int .u8 (IntKind.u8.wrap (n / 65536))] rfl rfl (one_new _ _ _) (fun u hu => (by simp at hu; subst hu; rfl)) hll hlm (by simp only [World.size_alloc]; omega) ?_; intro v' w3 hown' hgrow _)
        have P1 := Lib.hid (same_append K2.out K1.out hgrow)
        have P2 := Lib.hid hown'
        clear hown' hgrow
        go_roundw
        case rel => exact ⟨2 + 1, by omega, by first | rfl | go_num, by rw [E.out]; exact P2.out, P1.out⟩
        case measure => simp [intOf]; omega
      · have EV := Lib.hid (show (n / 256 ^ 3 : Int) = n / 16777216 by rfl)
        rw [EV.out] at E
        go_wp2_with fail
        refine HS1.out.mono ?_
        rintro e wq ⟨rfl, rfl⟩
        have hjlt : ((3 : Nat) : Int) < (k : Int) := by omega
        go_wp2_with (at_builtin; refine wpList_append_own _ rfl (.tmp 14) (.tmp 20) 64 rfl w.heap.size 5 i0 (.int .u8 0) 1 1 Tryz.underlying64 I0.out Z0.out Z1.out Z2.out rfl (by decide) _ _ _ rfl (K1.out.alloc _) ⟨wq.heap.size, 0, none⟩ 1 1 [.int .u8 (IntKind.u8.wrap (n / 16777216))] rfl rfl (one_new _ _ _) (fun u hu => (by simp at hu; subst hu; rfl)) hll hlm (by simp only [World.size_alloc]; omega) ?_; intro v' w3 hown' hgrow _)
        have P1 := Lib.hid (same_append K2.out K1.out hgrow)
        have P2 := Lib.hid hown'
        clear hown' hgrow
        go_roundw
        case rel => exact ⟨3 + 1, by omega, by first | rfl | go_num, by rw [E.out]; exact P2.out, P1.out⟩
        case measure => simp [intOf]; omega
      · have EV := Lib.hid (show (n / 256 ^ 4 : Int) = n / 4294967296 by rfl)
        rw [EV.out] at E
        go_wp2_with fail
        refine HS1.out.mono ?_
        rintro e wq ⟨rfl, rfl⟩
        have hjlt : ((4 : Nat) : Int) < (k : Int) := by omega
        go_wp2_with (at_builtin; refine wpList_append_own _ rfl (.tmp 14) (.tmp 20) 64 rfl w.heap.size 5 i0 (.int .u8 0) 1 1 Tryz.underlying64 I0.out Z0.out Z1.out Z2.out rfl (by decide) _ _ _ rfl (K1.out.alloc _) ⟨wq.heap.size, 0, none⟩ 1 1 [.int .u8 (IntKind.u8.wrap (n / 4294967296))] rfl rfl (one_new _ _ _) (fun u hu => (by simp at hu; subst hu; rfl)) hll hlm (by simp only [World.size_alloc]; omega) ?_; intro v' w3 hown' hgrow _)
        have P1 := Lib.hid (same_append K2.out K1.out hgrow)
        have P2 := Lib.hid hown'
        clear hown' hgrow
        go_roundw
        case rel => exact ⟨4 + 1, by omega, by first | rfl | go_num, by rw [E.out]; exact P2.out, P1.out⟩
        case measure => simp [intOf]; omega
      · have EV := Lib.hid (show (n / 256 ^ 5 : Int) = n / 1099511627776 by rfl)
        rw [EV.out] at E
        go_wp2_with fail
        refine HS1.out.mono ?_
        rintro e wq ⟨rfl, rfl⟩
        have hjlt : ((5 : Nat) : Int) < (k : Int) := by omega
        go_wp2_with (at_builtin; refine wpList_append_own _ rfl (.tmp 14) (.tmp 20) 64 rfl w.heap.size 5 i0 (.int .u8 0) 1 1 Tryz.underlying64 I0.out Z0.out Z1.out Z2.out rfl (by decide) _ _ _ rfl (K1.out.alloc _) ⟨wq.heap.size, 0, none⟩ 1 1 [.int .u8 (IntKind.u8.wrap (n / 1099511627776))] rfl rfl (one_new _ _ _) (fun u hu => (by simp at hu; subst hu; rfl)) hll hlm (by simp only [World.size_alloc]; omega) ?_; intro v' w3 hown' hgrow _)
        have P1 := Lib.hid (same_append K2.out K1.out hgrow)
        have P2 := Lib.hid hown'
        clear hown' hgrow
        go_roundw
        case rel => exact ⟨5 + 1, by omega, by first | rfl | go_num, by rw [E.out]; exact P2.out, P1.out⟩
        case measure => simp [intOf]; omega
      · have EV := Lib.hid (show (n / 256 ^ 6 : Int) = n / 281474976710656 by rfl)
        rw [EV.out] at E
        go_wp2_with fail
        refine HS1.out.mono ?_
        rintro e wq ⟨rfl, rfl⟩
        have hjlt : ((6 : Nat) : Int) < (k : Int) := by omega
        go_wp2_with (at_builtin; refine wpList_append_own _ rfl (.tmp 14) (.tmp 20) 64 rfl w.heap.size 5 i0 (.int .u8 0) 1 1 Tryz.underlying64 I0.out Z0.out Z1.out Z2.out rfl (by decide) _ _ _ rfl (K1.out.alloc _) ⟨wq.heap.size, 0, none⟩ 1 1 [.int .u8 (IntKind.u8.wrap (n / 281474976710656))] rfl rfl (one_new _ _ _) (fun u hu => (by simp at hu; subst hu; rfl)) hll hlm (by simp only [World.size_alloc]; omega) ?_; intro v' w3 hown' hgrow _)
        have P1 := Lib.hid (same_append K2.out K1.out hgrow)
        have P2 := Lib.hid hown'
        clear hown' hgrow
        go_roundw
        case rel => exact ⟨6 + 1, by omega, by first | rfl | go_num, by rw [E.out]; exact P2.out, P1.out⟩
        case measure => simp [intOf]; omega
      · have EV := Lib.hid (show (n / 256 ^ 7 : Int) = n / 72057594037927936 by rfl)
        rw [EV.out] at E
        have EW := Lib.hid (show IntKind.u8.wrap (n / 72057594037927936) = n / 72057594037927936 by rw [u8wrap]; omega)
        rw [EW.out] at E
        go_wp2_with fail
        refine HS1.out.mono ?_
        rintro e wq ⟨rfl, rfl⟩
        have hjlt : ((7 : Nat) : Int) < (k : Int) := by omega
        go_wp2_with (at_builtin; refine wpList_append_own _ rfl (.tmp 14) (.tmp 20) 64 rfl w.heap.size 5 i0 (.int .u8 0) 1 1 Tryz.underlying64 I0.out Z0.out Z1.out Z2.out rfl (by decide) _ _ _ rfl (K1.out.alloc _) ⟨wq.heap.size, 0, none⟩ 1 1 [.int .u8 (n / 72057594037927936)] rfl rfl (one_new _ _ _) (fun u hu => (by simp at hu; subst hu; rfl)) hll hlm (by simp only [World.size_alloc]; omega) ?_; intro v' w3 hown' hgrow _)
        have P1 := Lib.hid (same_append K2.out K1.out hgrow)
        have P2 := Lib.hid hown'
        clear hown' hgrow
        go_roundw
        case rel => exact ⟨7 + 1, by omega, by first | rfl | go_num, by rw [E.out]; exact P2.out, P1.out⟩
        case measure => simp [intOf]; omega
    · obtain rfl : j = k := by omega
      obtain ⟨g, cap, rfl, hg0, hgc, hrow⟩ := RowV.of_owns K1.out (by omega)
      have kc := run_convert_bytes_arg (P := Tryz.prog) wr 64 5 Tryz.underlying64 Tryz.underlying5 g 0 j cap ((leB n j).map fun b => (b.toNat : Int)) (by rw [List.length_map, leB_len]) (fun i hi => by
        rw [Nat.zero_add]
        refine (hrow.cell i (by omega)).trans ?_
        have hi2 : i < (leB n j).length := by rw [leB_len]; exact hi
        rw [List.getD_eq_getElem?_getD, List.getD_eq_getElem?_getD]
        unfold Lib.byteCells
        rw [List.getElem?_map, List.getElem?_map, List.getElem?_eq_getElem hi2]; rfl) 9 Tryz.underlying9
      rw [strOfNums_bytes] at kc
      clear hrow
      go_wp2_with fail
      refine HS1.out.mono ?_
      rintro e wq ⟨rfl, rfl⟩
      go_wp2
      exact HR.out _ _ ⟨rfl, K2.out⟩
theorem dropAt {l : List UInt8} {i : Nat} {c : UInt8} (h : l[i]? = some c) : l.drop i = c :: l.drop (i + 1) := by
  obtain ⟨q, rfl⟩ := List.getElem?_eq_some_iff.1 h
  exact List.drop_eq_getElem_cons q
theorem leV_drop (l : List UInt8) (q : Nat) (x : UInt8) (hx : l[q]? = some x) : leV (l.drop q) = x.toNat + 256 * leV (l.drop (q + 1)) := by
  rw [dropAt hx]; rfl
theorem leV_8 (l : List UInt8) (h : l.length ≤ 8) : 0 ≤ leV l ∧ leV l < 18446744073709551616 := by
  have h1 := leV_bd l
  refine ⟨h1.1, Int.lt_of_lt_of_le h1.2 ?_⟩
  have : l.length = 0 ∨ l.length = 1 ∨ l.length = 2 ∨ l.length = 3 ∨ l.length = 4 ∨ l.length = 5 ∨ l.length = 6 ∨ l.length = 7 ∨ l.length = 8 := by omega
  rcases this with e | e | e | e | e | e | e | e | e <;> rw [e] <;> decide
set_option maxRecDepth 10000 in
set_option maxHeartbeats 1000000 in
theorem refN_any (l : List UInt8) (hl : l.length ≤ 8) (w : World) : Calls Tryz.prog 56 #[.string ⟨l.toArray⟩] w fun e w' => e = .returned (.int .u64 (leV l)) ∧ w' = w := by
  refine opq fun R HR => ?_
  have hbs := bytes_size l
  go_enter Tryz.func56, Tryz.ntmps56
  go_wp2_with fail
  go_loopw [3, 4] (fun v i wr => ∃ (j : Nat), j ≤ l.length ∧ i = .int .i64 ((j : Int) - 1) ∧ v = .int .u64 (leV (l.drop j)) ∧ wr = w) (fun _ i _ => (intOf i + 1).toNat)
  case atStart => exact ⟨l.length, Nat.le_refl _, rfl, by rw [List.drop_length]; rfl, rfl⟩
  case round =>
    obtain ⟨j, hj, rfl, rfl, rfl⟩ := hrel
    by_cases hlt : 0 < j
    · obtain ⟨q, rfl⟩ : ∃ q, j = q + 1 := ⟨j - 1, by omega⟩
      rw [show ((q + 1 : Nat) : Int) - 1 = (q : Int) by omega]
      obtain ⟨x, hx⟩ : ∃ x, l[q]? = some x := ⟨_, List.getElem?_eq_getElem (by omega)⟩
      have kx := fun W => idx_any l q x hx (q : Int) rfl W
      have E := Lib.hid (leV_drop l q x hx)
      have h8 := leV_8 (l.drop q) (by rw [List.length_drop]; omega)
      have hx8 := x.toNat_lt
      rw [E.out] at h8
      have h0 := (leV_bd (l.drop (q + 1))).1
      clear hx
      generalize leV (l.drop (q + 1)) = v at *
      have w1 : IntKind.u64.wrap (v * 256) = v * 256 := wraps_u64 _ (by omega) (by omega)
      have w2 : IntKind.u64.wrap (x.toNat : Int) = (x.toNat : Int) := wraps_u64 _ (by omega) (by omega)
      have w3 : IntKind.u64.wrap (v * 256 + (x.toNat : Int)) = v * 256 + (x.toNat : Int) := wraps_u64 _ (by omega) (by omega)
      go_wp2_with fail
      go_roundw
      case rel => exact ⟨q, by omega, by first | rfl | go_num, by rw [E.out]; congr 1; omega, by first | rfl | trivial⟩
      case measure => simp [intOf]
    · obtain rfl : j = 0 := by omega
      rw [show ((0 : Nat) : Int) - 1 = -1 by rfl]
      rw [List.drop_zero]
      go_wp2
      exact HR.out _ _ ⟨rfl, rfl⟩
/-- The register inside a byte, as the document keeps it. -/
def cB (x b q : Nat) : Nat := tN (x ^^^ b) q ^^^ (b / 2 ^ q)
theorem cB_zero (x b : Nat) : cB x b 0 = x := by
  unfold cB
  rw [Nat.pow_zero, Nat.div_one]
  show x ^^^ b ^^^ b = x
  rw [Nat.xor_assoc, Nat.xor_self, Nat.xor_zero]
theorem cB_eight (x b : Nat) (h : b < 256) : cB x b 8 = tN (x ^^^ b) 8 := by
  unfold cB
  rw [show b / 2 ^ 8 = 0 by omega, Nat.xor_zero]
theorem cB_lt {x b : Nat} (hx : x < 4294967296) (hb : b < 256) (q : Nat) : cB x b q < 4294967296 :=
  xor_lt32 (tN_lt (xor_lt32 hx (by omega)) q) (Nat.lt_of_le_of_lt (Nat.div_le_self _ _) (by omega))
theorem cB_succ (x b q : Nat) : cB x b (q + 1) = if (cB x b q % 2 ^^^ b / 2 ^ q % 2) = 1 then (cB x b q / 2) ^^^ 2197175160 else cB x b q / 2 := by
  have hp : b / 2 ^ (q + 1) = b / 2 ^ q / 2 := by rw [Nat.pow_succ, Nat.div_div_eq_div_mul]
  have hm : (cB x b q % 2 ^^^ b / 2 ^ q % 2) = tN (x ^^^ b) q % 2 := by
    have : (cB x b q ^^^ b / 2 ^ q) = tN (x ^^^ b) q := by unfold cB; rw [Nat.xor_assoc, Nat.xor_self, Nat.xor_zero]
    have e2 := Nat.xor_mod_two_pow (a := cB x b q) (b := b / 2 ^ q) (n := 1)
    rw [Nat.pow_one] at e2
    rw [← this, e2]
  have hd : cB x b q / 2 = tN (x ^^^ b) q / 2 ^^^ b / 2 ^ q / 2 := by unfold cB; exact Nat.xor_div_two
  rw [hm, hd]
  show tB (tN (x ^^^ b) q) ^^^ _ = _
  unfold tB
  rw [hp]
  by_cases h : tN (x ^^^ b) q % 2 = 1
  · rw [if_pos h, if_pos h, Nat.xor_assoc, Nat.xor_comm 2197175160, ← Nat.xor_assoc]
  · rw [if_neg h, if_neg h]
theorem u32_one (c : Nat) (h : c < 4294967296) : bits .and .u32 (c : Int) 1 = ((c % 2 : Nat) : Int) := by
  have := u32_and_nat c 1 h (by decide)
  rw [Nat.and_one_is_mod] at this
  exact this
set_option maxRecDepth 10000 in
set_option maxHeartbeats 4000000 in
theorem refSum_any (l : List UInt8) (hll : l.length ≤ 100000000000000) (w : World) : Calls Tryz.prog 52 #[.string ⟨l.toArray⟩] w fun e w' => e = .returned (.int .u32 (sumL l)) ∧ w' = w := by
  refine opq fun R HR => ?_
  have hbs := bytes_size l
  have hSL : sumL l = bits .xor .u32 ((rg 4294967295 l : Nat) : Int) 4294967295 := by
    rw [sumL_nat]
    exact (u32_xor_nat _ 4294967295 (rg_lt (by decide) l) (by decide)).symm
  rw [hSL] at HR
  clear hSL
  go_enter Tryz.func52, Tryz.ntmps52
  go_wp2_with fail
  go_loopw [3, 4, 5, 6] (fun v i _ _ wr => ∃ j : Nat, j ≤ l.length ∧ i = .int .i64 (j : Int) ∧ v = .int .u32 ((rg 4294967295 (l.take j) : Nat) : Int) ∧ wr = w) (fun _ i _ _ _ => l.length - (intOf i).toNat)
  case atStart => exact ⟨0, by omega, rfl, rfl, rfl⟩
  case round =>
    obtain ⟨j, hj, rfl, rfl, rfl⟩ := hrel
    by_cases hlt : j < l.length
    · obtain ⟨b, hb⟩ : ∃ b, l[j]? = some b := ⟨_, List.getElem?_eq_getElem hlt⟩
      have kx := fun W => idx_any l j b hb (j : Int) rfl W
      have hb8 := b.toNat_lt
      have hrl := rg_lt (show 4294967295 < 4294967296 by decide) (l.take j)
      have E := Lib.hid (show rg 4294967295 (l.take (j + 1)) = tN (rg 4294967295 (l.take j) ^^^ b.toNat) 8 by
        obtain ⟨hk, rfl⟩ := List.getElem?_eq_some_iff.1 hb
        rw [List.take_succ_eq_append_getElem hk, rg_append]; rfl)
      clear hb
      generalize rg 4294967295 (l.take j) = x at *
      generalize b.toNat = bn at *
      have h0 := cB_zero x bn
      go_wp2_with fail
      go_loopw [3, 5, 6] (fun v q _ wz => ∃ q' : Nat, q' ≤ 8 ∧ q = .int .i64 (q' : Int) ∧ v = .int .u32 ((cB x bn q' : Nat) : Int) ∧ wz = wr) (fun _ q _ _ => 8 - (intOf q).toNat)
      case atStart => exact ⟨0, by omega, rfl, by rw [cB_zero], rfl⟩
      case round =>
        obtain ⟨q, hq, rfl, rfl, rfl⟩ := hrel
        clear h0
        by_cases hq8 : q < 8
        · have hcl := cB_lt hrl hb8 q
          have HC := Lib.hid (cB_succ x bn q)
          have hq' : q = 0 ∨ q = 1 ∨ q = 2 ∨ q = 3 ∨ q = 4 ∨ q = 5 ∨ q = 6 ∨ q = 7 := by omega
          clear hq hq8
          rcases hq' with rfl | rfl | rfl | rfl | rfl | rfl | rfl | rfl
          · have hsh : (bn / 2 ^ 0 : Nat) = bn := by rw [Nat.pow_zero, Nat.div_one]
            rw [hsh] at HC
            have hbit : bits .xor .u32 (bits .and .u32 ((cB x bn 0 : Nat) : Int) 1) (bits .and .u32 ((bn : Int)) 1) = (((cB x bn 0 % 2 ^^^ bn % 2 : Nat)) : Int) := by
              rw [u32_one _ hcl, show ((bn : Int)) = ((bn : Nat) : Int) by rfl, u32_one _ (by omega)]
              exact u32_xor_nat _ _ (by omega) (by omega)
            generalize cB x bn 0 = c at *
            clear hsh
            by_cases h1 : (c % 2 ^^^ bn % 2) = 1
            · rw [if_pos h1] at HC
              have hb1 : (bits .xor .u32 (bits .and .u32 (c : Int) 1) (bits .and .u32 ((bn : Int)) 1) == 1) = true := by rw [hbit, h1]; rfl
              have hx2 : ((c / 2 ^^^ 2197175160 : Nat) : Int) = bits .xor .u32 ((c : Int) / 2) 2197175160 := by
                have := u32_xor_nat (c / 2) 2197175160 (by omega) (by decide)
                rw [← this]; rfl
              have HX2 := Lib.hid hx2
              clear hbit h1 hx2
              go_wp2_with fail
              go_roundw
              case rel => exact ⟨0 + 1, by omega, by first | rfl | go_num, by rw [HC.out, HX2.out], by first | rfl | trivial⟩
              case measure => simp [intOf]
            · rw [if_neg h1] at HC
              have hb1 : (bits .xor .u32 (bits .and .u32 (c : Int) 1) (bits .and .u32 ((bn : Int)) 1) == 1) = false := by rw [hbit, beq_eq_false_iff_ne]; omega
              clear hbit h1
              go_wp2_with fail
              go_roundw
              case rel => exact ⟨0 + 1, by omega, by first | rfl | go_num, by rw [HC.out]; rfl, by first | rfl | trivial⟩
              case measure => simp [intOf]
          · have hsh : (bn / 2 ^ 1 : Nat) = bn / 2 := by rfl
            rw [hsh] at HC
            have hbit : bits .xor .u32 (bits .and .u32 ((cB x bn 1 : Nat) : Int) 1) (bits .and .u32 ((bn : Int) / 2) 1) = (((cB x bn 1 % 2 ^^^ bn / 2 % 2 : Nat)) : Int) := by
              rw [u32_one _ hcl, show ((bn : Int) / 2) = ((bn / 2 : Nat) : Int) by rfl, u32_one _ (by omega)]
              exact u32_xor_nat _ _ (by omega) (by omega)
            generalize cB x bn 1 = c at *
            clear hsh
            by_cases h1 : (c % 2 ^^^ bn / 2 % 2) = 1
            · rw [if_pos h1] at HC
              have hb1 : (bits .xor .u32 (bits .and .u32 (c : Int) 1) (bits .and .u32 ((bn : Int) / 2) 1) == 1) = true := by rw [hbit, h1]; rfl
              have hx2 : ((c / 2 ^^^ 2197175160 : Nat) : Int) = bits .xor .u32 ((c : Int) / 2) 2197175160 := by
                have := u32_xor_nat (c / 2) 2197175160 (by omega) (by decide)
                rw [← this]; rfl
              have HX2 := Lib.hid hx2
              clear hbit h1 hx2
              go_wp2_with fail
              go_roundw
              case rel => exact ⟨1 + 1, by omega, by first | rfl | go_num, by rw [HC.out, HX2.out], by first | rfl | trivial⟩
              case measure => simp [intOf]
            · rw [if_neg h1] at HC
              have hb1 : (bits .xor .u32 (bits .and .u32 (c : Int) 1) (bits .and .u32 ((bn : Int) / 2) 1) == 1) = false := by rw [hbit, beq_eq_false_iff_ne]; omega
              clear hbit h1
              go_wp2_with fail
              go_roundw
              case rel => exact ⟨1 + 1, by omega, by first | rfl | go_num, by rw [HC.out]; rfl, by first | rfl | trivial⟩
              case measure => simp [intOf]
          · have hsh : (bn / 2 ^ 2 : Nat) = bn / 4 := by rfl
            rw [hsh] at HC
            have hbit : bits .xor .u32 (bits .and .u32 ((cB x bn 2 : Nat) : Int) 1) (bits .and .u32 ((bn : Int) / 4) 1) = (((cB x bn 2 % 2 ^^^ bn / 4 % 2 : Nat)) : Int) := by
              rw [u32_one _ hcl, show ((bn : Int) / 4) = ((bn / 4 : Nat) : Int) by rfl, u32_one _ (by omega)]
              exact u32_xor_nat _ _ (by omega) (by omega)
            generalize cB x bn 2 = c at *
            clear hsh
            by_cases h1 : (c % 2 ^^^ bn / 4 % 2) = 1
            · rw [if_pos h1] at HC
              have hb1 : (bits .xor .u32 (bits .and .u32 (c : Int) 1) (bits .and .u32 ((bn : Int) / 4) 1) == 1) = true := by rw [hbit, h1]; rfl
              have hx2 : ((c / 2 ^^^ 2197175160 : Nat) : Int) = bits .xor .u32 ((c : Int) / 2) 2197175160 := by
                have := u32_xor_nat (c / 2) 2197175160 (by omega) (by decide)
                rw [← this]; rfl
              have HX2 := Lib.hid hx2
              clear hbit h1 hx2
              go_wp2_with fail
              go_roundw
              case rel => exact ⟨2 + 1, by omega, by first | rfl | go_num, by rw [HC.out, HX2.out], by first | rfl | trivial⟩
              case measure => simp [intOf]
            · rw [if_neg h1] at HC
              have hb1 : (bits .xor .u32 (bits .and .u32 (c : Int) 1) (bits .and .u32 ((bn : Int) / 4) 1) == 1) = false := by rw [hbit, beq_eq_false_iff_ne]; omega
              clear hbit h1
              go_wp2_with fail
              go_roundw
              case rel => exact ⟨2 + 1, by omega, by first | rfl | go_num, by rw [HC.out]; rfl, by first | rfl | trivial⟩
              case measure => simp [intOf]
          · have hsh : (bn / 2 ^ 3 : Nat) = bn / 8 := by rfl
            rw [hsh] at HC
            have hbit : bits .xor .u32 (bits .and .u32 ((cB x bn 3 : Nat) : Int) 1) (bits .and .u32 ((bn : Int) / 8) 1) = (((cB x bn 3 % 2 ^^^ bn / 8 % 2 : Nat)) : Int) := by
              rw [u32_one _ hcl, show ((bn : Int) / 8) = ((bn / 8 : Nat) : Int) by rfl, u32_one _ (by omega)]
              exact u32_xor_nat _ _ (by omega) (by omega)
            generalize cB x bn 3 = c at *
            clear hsh
            by_cases h1 : (c % 2 ^^^ bn / 8 % 2) = 1
            · rw [if_pos h1] at HC
              have hb1 : (bits .xor .u32 (bits .and .u32 (c : Int) 1) (bits .and .u32 ((bn : Int) / 8) 1) == 1) = true := by rw [hbit, h1]; rfl
              have hx2 : ((c / 2 ^^^ 2197175160 : Nat) : Int) = bits .xor .u32 ((c : Int) / 2) 2197175160 := by
                have := u32_xor_nat (c / 2) 2197175160 (by omega) (by decide)
                rw [← this]; rfl
              have HX2 := Lib.hid hx2
              clear hbit h1 hx2
              go_wp2_with fail
              go_roundw
              case rel => exact ⟨3 + 1, by omega, by first | rfl | go_num, by rw [HC.out, HX2.out], by first | rfl | trivial⟩
              case measure => simp [intOf]
            · rw [if_neg h1] at HC
              have hb1 : (bits .xor .u32 (bits .and .u32 (c : Int) 1) (bits .and .u32 ((bn : Int) / 8) 1) == 1) = false := by rw [hbit, beq_eq_false_iff_ne]; omega
              clear hbit h1
              go_wp2_with fail
              go_roundw
              case rel => exact ⟨3 + 1, by omega, by first | rfl | go_num, by rw [HC.out]; rfl, by first | rfl | trivial⟩
              case measure => simp [intOf]
          · have hsh : (bn / 2 ^ 4 : Nat) = bn / 16 := by rfl
            rw [hsh] at HC
            have hbit : bits .xor .u32 (bits .and .u32 ((cB x bn 4 : Nat) : Int) 1) (bits .and .u32 ((bn : Int) / 16) 1) = (((cB x bn 4 % 2 ^^^ bn / 16 % 2 : Nat)) : Int) := by
              rw [u32_one _ hcl, show ((bn : Int) / 16) = ((bn / 16 : Nat) : Int) by rfl, u32_one _ (by omega)]
              exact u32_xor_nat _ _ (by omega) (by omega)
            generalize cB x bn 4 = c at *
            clear hsh
            by_cases h1 : (c % 2 ^^^ bn / 16 % 2) = 1
            · rw [if_pos h1] at HC
              have hb1 : (bits .xor .u32 (bits .and .u32 (c : Int) 1) (bits .and .u32 ((bn : Int) / 16) 1) == 1) = true := by rw [hbit, h1]; rfl
              have hx2 : ((c / 2 ^^^ 2197175160 : Nat) : Int) = bits .xor .u32 ((c : Int) / 2) 2197175160 := by
                have := u32_xor_nat (c / 2) 2197175160 (by omega) (by decide)
                rw [← this]; rfl
              have HX2 := Lib.hid hx2
              clear hbit h1 hx2
              go_wp2_with fail
              go_roundw
              case rel => exact ⟨4 + 1, by omega, by first | rfl | go_num, by rw [HC.out, HX2.out], by first | rfl | trivial⟩
              case measure => simp [intOf]
            · rw [if_neg h1] at HC
              have hb1 : (bits .xor .u32 (bits .and .u32 (c : Int) 1) (bits .and .u32 ((bn : Int) / 16) 1) == 1) = false := by rw [hbit, beq_eq_false_iff_ne]; omega
              clear hbit h1
              go_wp2_with fail
              go_roundw
              case rel => exact ⟨4 + 1, by omega, by first | rfl | go_num, by rw [HC.out]; rfl, by first | rfl | trivial⟩
              case measure => simp [intOf]
          · have hsh : (bn / 2 ^ 5 : Nat) = bn / 32 := by rfl
            rw [hsh] at HC
            have hbit : bits .xor .u32 (bits .and .u32 ((cB x bn 5 : Nat) : Int) 1) (bits .and .u32 ((bn : Int) / 32) 1) = (((cB x bn 5 % 2 ^^^ bn / 32 % 2 : Nat)) : Int) := by
              rw [u32_one _ hcl, show ((bn : Int) / 32) = ((bn / 32 : Nat) : Int) by rfl, u32_one _ (by omega)]
              exact u32_xor_nat _ _ (by omega) (by omega)
            generalize cB x bn 5 = c at *
            clear hsh
            by_cases h1 : (c % 2 ^^^ bn / 32 % 2) = 1
            · rw [if_pos h1] at HC
              have hb1 : (bits .xor .u32 (bits .and .u32 (c : Int) 1) (bits .and .u32 ((bn : Int) / 32) 1) == 1) = true := by rw [hbit, h1]; rfl
              have hx2 : ((c / 2 ^^^ 2197175160 : Nat) : Int) = bits .xor .u32 ((c : Int) / 2) 2197175160 := by
                have := u32_xor_nat (c / 2) 2197175160 (by omega) (by decide)
                rw [← this]; rfl
              have HX2 := Lib.hid hx2
              clear hbit h1 hx2
              go_wp2_with fail
              go_roundw
              case rel => exact ⟨5 + 1, by omega, by first | rfl | go_num, by rw [HC.out, HX2.out], by first | rfl | trivial⟩
              case measure => simp [intOf]
            · rw [if_neg h1] at HC
              have hb1 : (bits .xor .u32 (bits .and .u32 (c : Int) 1) (bits .and .u32 ((bn : Int) / 32) 1) == 1) = false := by rw [hbit, beq_eq_false_iff_ne]; omega
              clear hbit h1
              go_wp2_with fail
              go_roundw
              case rel => exact ⟨5 + 1, by omega, by first | rfl | go_num, by rw [HC.out]; rfl, by first | rfl | trivial⟩
              case measure => simp [intOf]
          · have hsh : (bn / 2 ^ 6 : Nat) = bn / 64 := by rfl
            rw [hsh] at HC
            have hbit : bits .xor .u32 (bits .and .u32 ((cB x bn 6 : Nat) : Int) 1) (bits .and .u32 ((bn : Int) / 64) 1) = (((cB x bn 6 % 2 ^^^ bn / 64 % 2 : Nat)) : Int) := by
              rw [u32_one _ hcl, show ((bn : Int) / 64) = ((bn / 64 : Nat) : Int) by rfl, u32_one _ (by omega)]
              exact u32_xor_nat _ _ (by omega) (by omega)
            generalize cB x bn 6 = c at *
            clear hsh
            by_cases h1 : (c % 2 ^^^ bn / 64 % 2) = 1
            · rw [if_pos h1] at HC
              have hb1 : (bits .xor .u32 (bits .and .u32 (c : Int) 1) (bits .and .u32 ((bn : Int) / 64) 1) == 1) = true := by rw [hbit, h1]; rfl
              have hx2 : ((c / 2 ^^^ 2197175160 : Nat) : Int) = bits .xor .u32 ((c : Int) / 2) 2197175160 := by
                have := u32_xor_nat (c / 2) 2197175160 (by omega) (by decide)
                rw [← this]; rfl
              have HX2 := Lib.hid hx2
              clear hbit h1 hx2
              go_wp2_with fail
              go_roundw
              case rel => exact ⟨6 + 1, by omega, by first | rfl | go_num, by rw [HC.out, HX2.out], by first | rfl | trivial⟩
              case measure => simp [intOf]
            · rw [if_neg h1] at HC
              have hb1 : (bits .xor .u32 (bits .and .u32 (c : Int) 1) (bits .and .u32 ((bn : Int) / 64) 1) == 1) = false := by rw [hbit, beq_eq_false_iff_ne]; omega
              clear hbit h1
              go_wp2_with fail
              go_roundw
              case rel => exact ⟨6 + 1, by omega, by first | rfl | go_num, by rw [HC.out]; rfl, by first | rfl | trivial⟩
              case measure => simp [intOf]
          · have hsh : (bn / 2 ^ 7 : Nat) = bn / 128 := by rfl
            rw [hsh] at HC
            have hbit : bits .xor .u32 (bits .and .u32 ((cB x bn 7 : Nat) : Int) 1) (bits .and .u32 ((bn : Int) / 128) 1) = (((cB x bn 7 % 2 ^^^ bn / 128 % 2 : Nat)) : Int) := by
              rw [u32_one _ hcl, show ((bn : Int) / 128) = ((bn / 128 : Nat) : Int) by rfl, u32_one _ (by omega)]
              exact u32_xor_nat _ _ (by omega) (by omega)
            generalize cB x bn 7 = c at *
            clear hsh
            by_cases h1 : (c % 2 ^^^ bn / 128 % 2) = 1
            · rw [if_pos h1] at HC
              have hb1 : (bits .xor .u32 (bits .and .u32 (c : Int) 1) (bits .and .u32 ((bn : Int) / 128) 1) == 1) = true := by rw [hbit, h1]; rfl
              have hx2 : ((c / 2 ^^^ 2197175160 : Nat) : Int) = bits .xor .u32 ((c : Int) / 2) 2197175160 := by
                have := u32_xor_nat (c / 2) 2197175160 (by omega) (by decide)
                rw [← this]; rfl
              have HX2 := Lib.hid hx2
              clear hbit h1 hx2
              go_wp2_with fail
              go_roundw
              case rel => exact ⟨7 + 1, by omega, by first | rfl | go_num, by rw [HC.out, HX2.out], by first | rfl | trivial⟩
              case measure => simp [intOf]
            · rw [if_neg h1] at HC
              have hb1 : (bits .xor .u32 (bits .and .u32 (c : Int) 1) (bits .and .u32 ((bn : Int) / 128) 1) == 1) = false := by rw [hbit, beq_eq_false_iff_ne]; omega
              clear hbit h1
              go_wp2_with fail
              go_roundw
              case rel => exact ⟨7 + 1, by omega, by first | rfl | go_num, by rw [HC.out]; rfl, by first | rfl | trivial⟩
              case measure => simp [intOf]
        · obtain rfl : q = 8 := by omega
          rw [cB_eight x bn hb8, ← E.out]
          go_wp2_with fail
          go_roundw
          case rel => exact ⟨j + 1, by omega, by go_num, rfl, by first | rfl | trivial⟩
          case measure => simp [intOf]; omega
    · obtain rfl : j = l.length := by omega
      rw [List.take_length]
      go_wp2
      exact HR.out _ _ ⟨rfl, rfl⟩
/-- The document's Seal and Open are castle's. -/
theorem refSeal_any (l : List UInt8) (hll : l.length ≤ 100000000000000) (w : World) : Calls Tryz.prog 26 #[.string ⟨l.toArray⟩] w fun e w' => e = .returned (.string ⟨(sealL l).toArray⟩) ∧ Same w w' := by
  refine opq fun R HR => ?_
  have hu := sumL_u l
  have HS := Lib.hid (refSum_any l hll w)
  have HB := Lib.hid (fun w => refB_any (sumL l) 4 ⟨hu.1, by omega⟩ 4 (by decide) w)
  have hw : IntKind.u64.wrap (sumL l) = sumL l := wraps_u64 _ hu.1 (by omega)
  unfold sealL at HR
  rw [← str_app] at HR
  have hbl := bytes_size l
  have hbb : (⟨(leB (sumL l) 4).toArray⟩ : ByteArray).size = 4 := by rw [bytes_size, leB_len]
  generalize sumL l = s at *
  generalize leB s 4 = b at *
  go_enter Tryz.func26, Tryz.ntmps26
  go_wp2_with fail
  refine HS.out.mono ?_
  rintro e w1 ⟨rfl, rfl⟩
  clear HS
  go_wp2_with fail
  refine (HB.out _).mono ?_
  rintro e w2 ⟨rfl, M2⟩
  have K2 := Lib.hid M2
  clear M2 HB
  go_wp2
  exact HR.out _ _ ⟨rfl, K2.out⟩
theorem refOpen_any (l : List UInt8) (hs : l.length ≤ 100000000000000) (w : World) : Calls Tryz.prog 60 #[.string ⟨l.toArray⟩] w fun e w' => e = .returned (match openL l with | none => .tuple #[.string ⟨#[]⟩, .bool false] | some t => .tuple #[.string ⟨t.toArray⟩, .bool true]) ∧ Same w w' := by
  refine opq fun R HR => ?_
  have hll := bytes_size l
  by_cases h4 : l.length < 4
  · have e : openL l = none := by unfold openL; rw [if_pos h4]
    rw [e] at HR
    have hq : decide ((l.length : Int) < 4) = true := decide_eq_true (by omega)
    clear e h4
    go_enter Tryz.func60, Tryz.ntmps60
    go_wp2
    exact HR.out _ _ ⟨rfl, Mod.refl _ _⟩
  · have hq : decide ((l.length : Int) < 4) = false := decide_eq_false (by omega)
    obtain ⟨n, hn⟩ : ∃ n, l.length = n + 4 := ⟨l.length - 4, by omega⟩
    have et : (⟨l.toArray⟩ : ByteArray).extract 0 n = ⟨(l.take n).toArray⟩ := take_bytes _ _
    have ET := Lib.hid et
    have HS := Lib.hid (refSeal_any (l.take n) (by rw [List.length_take]; omega) w)
    have hn4 : ((l.length : Int) - 4) = (n : Int) := by omega
    unfold openL at HR
    rw [if_neg h4, show l.length - 4 = n by omega] at HR
    have HN := Lib.hid hn
    by_cases hsl : sealL (l.take n) = l
    · rw [if_pos hsl] at HR
      dsimp only at HR
      rw [hsl] at HS
      have hne : (l != l) = false := by simp
      have hne2 : (l == l) = true := by simp
      clear et h4 hsl
      rw [hn] at hll
      go_enter Tryz.func60, Tryz.ntmps60
      go_wp2_with fail
      rw [ET.out]
      refine HS.out.mono ?_
      rintro e w1 ⟨rfl, M1⟩
      have K1 := Lib.hid M1
      clear M1 HS
      go_wp2_with fail
      rw [ET.out]
      exact HR.out _ _ ⟨rfl, K1.out⟩
    · rw [if_neg hsl] at HR
      dsimp only at HR
      have hne : (sealL (l.take n) != l) = true := by simpa using hsl
      have hne2 : (sealL (l.take n) == l) = false := by simpa using hsl
      clear et h4 hsl
      rw [hn] at hll
      generalize sealL (l.take n) = sl at *
      go_enter Tryz.func60, Tryz.ntmps60
      go_wp2_with fail
      rw [ET.out]
      refine HS.out.mono ?_
      rintro e w1 ⟨rfl, M1⟩
      have K1 := Lib.hid M1
      clear M1 HS
      go_wp2
      exact HR.out _ _ ⟨rfl, K1.out⟩
end Go.Proofs.YtdengmlidckkeaaGreatDoor
namespace Go.Proofs.YtdengmlidckkeaaGreatDoor
open Go Go.RowKit
theorem head_str (k : Nat) (h : k < 15) : strOfNums [(k : Int) + 1] = ⟨(leB ((k : Int) + 1) 1).toArray⟩ := by
  rcases kinds15 h with rfl | rfl | rfl | rfl | rfl | rfl | rfl | rfl | rfl | rfl | rfl | rfl | rfl | rfl | rfl <;> rfl
set_option maxRecDepth 10000 in
set_option maxHeartbeats 4000000 in
/-- The document's bytes of an order. -/
theorem refbytes38 (o : OW) (hf : o.form) (hfit : o.fits = true) (a b : Option Addr) (c d : Nat) (w : World) (hn : RowAt w a (o.ns.map (Value.int .i64))) (ht : RowAt w b (o.ts.map strV)) :
    Calls Tryz.prog 23 #[.agg #[.int .i64 ((o.k : Int) + 1), .slice a o.ns.length c, .slice b o.ts.length d]] w fun e w' => e = .returned (.tuple #[.string ⟨(packW o).toArray⟩, .bool true]) ∧ Same w w' := by
  refine opq fun R HR => ?_
  have hk := hf.lt
  have HF := Lib.hid (fits_mem hfit)
  have N0 := Lib.hid hn
  have T0 := Lib.hid ht
  have hsm := small3 o hf
  unfold packW packN at HR
  clear hn ht hf hfit
  obtain ⟨K, ns, ts⟩ := o
  dsimp only at hk HF N0 T0 hsm HR ⊢
  obtain ⟨n, hnl⟩ : ∃ n, ns.length = n := ⟨_, rfl⟩
  obtain ⟨m, htl⟩ : ∃ m, ts.length = m := ⟨_, rfl⟩
  have HNL := Lib.hid hnl
  have HTL := Lib.hid htl
  rw [hnl, htl] at hsm ⊢
  have g1 : decide ((K : Int) + 1 < 1) = false := decide_eq_false (by omega)
  have g2 : decide ((15 : Int) < (K : Int) + 1) = false := decide_eq_false (by omega)
  have kc := conv1 (w.alloc (.cells #[.int .i64 ((K : Int) + 1), .slice a n c, .slice b m d] 32)) ((K : Int) + 1)
  rw [head_str K hk, World.size_alloc] at kc
  have hh : (leB ((K : Int) + 1) 1).length = 1 := leB_len _ _
  generalize leB ((K : Int) + 1) 1 = h0 at *
  clear hnl htl
  go_enter Tryz.func23, Tryz.ntmps23
  go_wp2_with fail
  clear g1 g2 kc
  have S0 := Lib.hid (((Mod.refl (fun _ => False) w).alloc (.cells #[.int .i64 ((K : Int) + 1), .slice a n c, .slice b m d] 32)).alloc (.cells #[.int .u8 ((K : Int) + 1)] 5))
  have B0 := Lib.hid ((Blk.new w #[.int .i64 ((K : Int) + 1), .slice a n c, .slice b m d] 32).alloc (.cells #[.int .u8 ((K : Int) + 1)] 5))
  generalize (w.alloc _).alloc _ = W at *
  generalize hZ : w.heap.size = Z at *
  have N1 := Lib.hid (N0.out.same S0.out)
  have T1 := Lib.hid (T0.out.same S0.out)
  clear N0 T0
  go_loopw [4, 5] (fun t i wr => ∃ j : Nat, j ≤ n ∧ i = .int .i64 (j : Int) ∧ t = .string ⟨(h0 ++ numsL (ns.take j)).toArray⟩ ∧ Same W wr) (fun _ i _ => n - (intOf i).toNat)
  case atStart => exact ⟨0, by omega, rfl, by simp [numsL], Mod.refl _ _⟩
  case round =>
    obtain ⟨j, hj, rfl, rfl, hM⟩ := hrel
    have L1 := Lib.hid hM
    have hb1 := (B0.out.mod hM (fun q => q)).cell
    by_cases hlt : j < n
    · obtain ⟨x, hx⟩ : ∃ x, ns[j]? = some x := ⟨_, List.getElem?_eq_getElem (by rw [HNL.out]; exact hlt)⟩
      obtain ⟨ga, oa, ea, hga, hca⟩ := N1.out (by rw [List.length_map, HNL.out]; omega)
      subst ea
      have hcx := (hM.cell hga (fun q => q) (oa + j)).trans (hca j (.int .i64 x) (by rw [List.getElem?_map, hx]; rfl))
      have E := Lib.hid (show h0 ++ numsL (ns.take (j + 1)) = (h0 ++ numsL (ns.take j)) ++ leB (IntKind.u64.wrap x) 8 by rw [numsL_succ ns j x hx, List.append_assoc])
      have HB := Lib.hid (fun w => refB_any (IntKind.u64.wrap x) 8 (u64_u x) 8 (by decide) w)
      have hbt := bytes_size (h0 ++ numsL (ns.take j))
      rw [List.length_append, hh, numsL_len, List.length_take, HNL.out] at hbt
      have hbd : (⟨(leB (IntKind.u64.wrap x) 8).toArray⟩ : ByteArray).size = 8 := by rw [bytes_size, leB_len]
      have hbt2 : (⟨(h0 ++ numsL (ns.take j)).toArray⟩ : ByteArray).size ≤ 100 := by rw [hbt]; omega
      clear hx hga hca hM hbt
      generalize leB (IntKind.u64.wrap x) 8 = lx at *
      generalize h0 ++ numsL (ns.take j) = tj at *
      go_wp2_with fail
      refine (HB.out _).mono ?_
      rintro e w6 ⟨rfl, M6⟩
      have L2 := Lib.hid (L1.out.same M6)
      clear hb1 hcx M6 HB L1
      go_wp2_with fail
      go_roundw
      case rel => exact ⟨j + 1, by omega, by go_num, by rw [E.out, ← str_app], L2.out⟩
      case measure => simp [intOf]; omega
    · obtain rfl : j = n := by omega
      have e1 : ns.take j = ns := List.take_of_length_le (by rw [HNL.out]; exact Nat.le_refl _)
      rw [e1]
      have hbt := bytes_size (h0 ++ numsL ns)
      have hpl : (h0 ++ numsL ns).length ≤ 100 := by rw [List.length_append, hh, numsL_len, HNL.out]; omega
      generalize h0 ++ numsL ns = pn at *
      clear hM e1
      go_wp2_with fail
      clear hb1
      go_loopw [4, 6] (fun t i wr => ∃ q : Nat, q ≤ m ∧ i = .int .i64 (q : Int) ∧ t = .string ⟨(pn ++ datsL (ts.take q)).toArray⟩ ∧ Same W wr) (fun _ i _ => m - (intOf i).toNat)
      case atStart => exact ⟨0, by omega, rfl, by simp [datsL], L1.out⟩
      case round =>
        obtain ⟨q, hq, rfl, rfl, hM⟩ := hrel
        clear L1
        have L1 := Lib.hid hM
        have hb1 := (B0.out.mod hM (fun q => q)).cell
        by_cases hlt : q < m
        · obtain ⟨x, hx⟩ : ∃ x, ts[q]? = some x := ⟨_, List.getElem?_eq_getElem (by rw [HTL.out]; exact hlt)⟩
          obtain ⟨bt, ot, ea, hbt0, hca⟩ := T1.out (by rw [List.length_map, HTL.out]; omega)
          subst ea
          have hcx := (hM.cell hbt0 (fun q => q) (ot + q)).trans (hca q (strV x) (by rw [List.getElem?_map, hx]; rfl))
          unfold strV at hcx
          have hx5 := HF.out x (List.mem_of_getElem? hx)
          have hbx := bytes_size x
          have E := Lib.hid (show pn ++ datsL (ts.take (q + 1)) = ((pn ++ datsL (ts.take q)) ++ leB (x.length : Int) 2) ++ x by rw [datsL_succ ts q x hx]; unfold datL; simp only [List.append_assoc])
          have HB := Lib.hid (fun w => refB_any (x.length : Int) 2 ⟨by omega, by omega⟩ 2 (by decide) w)
          have hdl : (datsL (ts.take q)).length ≤ 514 * q := by
            have := datsL_len (ts.take q) (fun t ht => HF.out t (List.mem_of_mem_take ht))
            rw [List.length_take] at this; omega
          have hbt1 := bytes_size (pn ++ datsL (ts.take q))
          have hbt2 : (⟨(pn ++ datsL (ts.take q)).toArray⟩ : ByteArray).size ≤ 3000 := by rw [hbt1, List.length_append]; omega
          have hbd : (⟨(leB (x.length : Int) 2).toArray⟩ : ByteArray).size = 2 := by rw [bytes_size, leB_len]
          have hbs2 : (⟨(pn ++ datsL (ts.take q)).toArray⟩ ++ ⟨(leB (x.length : Int) 2).toArray⟩ : ByteArray).size ≤ 3002 := by rw [ByteArray.size_append]; omega
          have g1 : decide ((512 : Int) < (x.length : Int)) = false := decide_eq_false (by omega)
          have hz2 : wr.cell? ⟨Z, 2, none⟩ = some (.slice (some ⟨bt, ot, none⟩) m d) := hb1 2
          have hlz : Z < wr.heap.size := Nat.lt_of_lt_of_le B0.out.lt hM.size
          have hbt : bt < wr.heap.size := Nat.lt_of_lt_of_le hbt0 hM.size
          have hq1 : (0 : Int) ≤ (q : Int) := by omega
          have hq2 : (q : Int) < (m : Int) := by omega
          have hxw : IntKind.u64.wrap (x.length : Int) = (x.length : Int) := wraps_u64 _ (by omega) (by omega)
          have hs1 : ¬ 9223372036854775807 < (pn ++ datsL (ts.take q)).length + 2 := by rw [List.length_append]; omega
          have hs2 : ¬ 9223372036854775807 < (pn ++ datsL (ts.take q)).length + 2 + x.length := by rw [List.length_append]; omega
          clear hx hca hM hbt1 hdl
          generalize leB (x.length : Int) 2 = lx at *
          generalize pn ++ datsL (ts.take q) = tj at *
          go_wp2_with fail

          refine wp_region_held_drew (S := fun w' => Same wr w') (by kernel_rfl) (by (try dsimp only); exact (Mod.refl _ _).drew) (fun hHeld => ?_)
          refine wpAnyH_take (i := 0) (v := ?_) rfl (by kernel_rfl) (by kernel_rfl) (by kernel_rfl) (fun _ _ _ h => h) (Or.inl ⟨by rfl, ?_⟩) (by assumption) ?_
          rotate_left
          · intro w hSw
            try dsimp only at hSw
            go_simp
            try with_reducible rfl
          try simp only [List.getElem_toArray, List.getElem_cons_succ, List.getElem_cons_zero, Act.put, List.setIfInBounds_toArray, List.set_cons_zero, List.set_cons_succ]
          refine wpAnyH_take (i := 1) (v := ?_) rfl (by kernel_rfl) (by kernel_rfl) (by kernel_rfl) (fun _ _ _ h => h) (Or.inl ⟨by rfl, ?_⟩) (by assumption) ?_
          rotate_left
          · intro w hSw
            try dsimp only at hSw
            go_simp
            try with_reducible rfl
          try simp only [List.getElem_toArray, List.getElem_cons_succ, List.getElem_cons_zero, Act.put, List.setIfInBounds_toArray, List.set_cons_zero, List.set_cons_succ]
          refine wpAnyH_take (i := 2) (v := ?_) rfl (by kernel_rfl) (by kernel_rfl) (by kernel_rfl) (fun _ _ _ h => h) (Or.inl ⟨by rfl, ?_⟩) (by assumption) ?_
          rotate_left
          · intro w hSw
            try dsimp only at hSw
            have g1 := (hSw.cell hlz (fun q => q) 2).trans hz2
            go_simp
            try with_reducible rfl
          try simp only [List.getElem_toArray, List.getElem_cons_succ, List.getElem_cons_zero, Act.put, List.setIfInBounds_toArray, List.set_cons_zero, List.set_cons_succ]
          refine wpAnyH_take (i := 3) (v := ?_) rfl (by kernel_rfl) (by kernel_rfl) (by kernel_rfl) (fun _ _ _ h => h) (Or.inl ⟨by rfl, ?_⟩) (by assumption) ?_
          rotate_left
          · intro w hSw
            try dsimp only at hSw
            go_simp
            try with_reducible rfl
          try simp only [List.getElem_toArray, List.getElem_cons_succ, List.getElem_cons_zero, Act.put, List.setIfInBounds_toArray, List.set_cons_zero, List.set_cons_succ]
          refine wpAnyH_take (i := 4) (v := ?_) rfl (by kernel_rfl) (by kernel_rfl) (by kernel_rfl) (fun _ _ _ h => h) (Or.inl ⟨by rfl, ?_⟩) (by assumption) ?_
          rotate_left
          · intro w hSw
            try dsimp only at hSw
            go_simp
            try with_reducible rfl
          try simp only [List.getElem_toArray, List.getElem_cons_succ, List.getElem_cons_zero, Act.put, List.setIfInBounds_toArray, List.set_cons_zero, List.set_cons_succ]
          refine wpAnyH_take (i := 5) (v := ?_) rfl (by kernel_rfl) (by kernel_rfl) (by kernel_rfl) (fun _ _ _ h => h) (Or.inl ⟨by rfl, ?_⟩) (by assumption) ?_
          rotate_left
          · intro w hSw
            try dsimp only at hSw
            have g1 := (hSw.cell hbt (fun q => q) (ot + q)).trans hcx
            go_simp
            try with_reducible rfl
          try simp only [List.getElem_toArray, List.getElem_cons_succ, List.getElem_cons_zero, Act.put, List.setIfInBounds_toArray, List.set_cons_zero, List.set_cons_succ]
          refine wpAnyH_take (i := 6) (v := ?_) rfl (by kernel_rfl) (by kernel_rfl) (by kernel_rfl) (fun _ _ _ h => h) (Or.inl ⟨by rfl, ?_⟩) (by assumption) ?_
          rotate_left
          · intro w hSw
            try dsimp only at hSw
            go_simp
            try with_reducible rfl
          try simp only [List.getElem_toArray, List.getElem_cons_succ, List.getElem_cons_zero, Act.put, List.setIfInBounds_toArray, List.set_cons_zero, List.set_cons_succ]
          refine wpAnyH_take (i := 7) (v := ?_) rfl (by kernel_rfl) (by kernel_rfl) (by kernel_rfl) (fun _ _ _ h => h) (Or.inl ⟨by rfl, ?_⟩) (by assumption) ?_
          rotate_left
          · intro w hSw
            try dsimp only at hSw
            go_simp
            try with_reducible rfl
          try simp only [List.getElem_toArray, List.getElem_cons_succ, List.getElem_cons_zero, Act.put, List.setIfInBounds_toArray, List.set_cons_zero, List.set_cons_succ]
          refine wpAnyH_take (i := 10) (v := ?_) rfl (by kernel_rfl) (by kernel_rfl) (by kernel_rfl) (fun _ _ _ h => h) (Or.inl ⟨by rfl, ?_⟩) (by assumption) ?_
          rotate_left
          · intro w hSw
            try dsimp only at hSw
            go_simp
            try with_reducible rfl
          try simp only [List.getElem_toArray, List.getElem_cons_succ, List.getElem_cons_zero, Act.put, List.setIfInBounds_toArray, List.set_cons_zero, List.set_cons_succ]
          refine wpAnyH_take (i := 11) (v := ?_) rfl (by kernel_rfl) (by kernel_rfl) (by kernel_rfl) (fun _ _ _ h => h) (Or.inl ⟨by rfl, ?_⟩) (by assumption) ?_
          rotate_left
          · intro w hSw
            try dsimp only at hSw
            have g1 := (hSw.cell hlz (fun q => q) 2).trans hz2
            go_simp
            try with_reducible rfl
          try simp only [List.getElem_toArray, List.getElem_cons_succ, List.getElem_cons_zero, Act.put, List.setIfInBounds_toArray, List.set_cons_zero, List.set_cons_succ]
          refine wpAnyH_take (i := 12) (v := ?_) rfl (by kernel_rfl) (by kernel_rfl) (by kernel_rfl) (fun _ _ _ h => h) (Or.inl ⟨by rfl, ?_⟩) (by assumption) ?_
          rotate_left
          · intro w hSw
            try dsimp only at hSw
            go_simp
            try with_reducible rfl
          try simp only [List.getElem_toArray, List.getElem_cons_succ, List.getElem_cons_zero, Act.put, List.setIfInBounds_toArray, List.set_cons_zero, List.set_cons_succ]
          refine wpAnyH_take (i := 13) (v := ?_) rfl (by kernel_rfl) (by kernel_rfl) (by kernel_rfl) (fun _ _ _ h => h) (Or.inl ⟨by rfl, ?_⟩) (by assumption) ?_
          rotate_left
          · intro w hSw
            try dsimp only at hSw
            go_simp
            try with_reducible rfl
          try simp only [List.getElem_toArray, List.getElem_cons_succ, List.getElem_cons_zero, Act.put, List.setIfInBounds_toArray, List.set_cons_zero, List.set_cons_succ]
          refine wpAnyH_take (i := 14) (v := ?_) rfl (by kernel_rfl) (by kernel_rfl) (by kernel_rfl) (fun _ _ _ h => h) (Or.inl ⟨by rfl, ?_⟩) (by assumption) ?_
          rotate_left
          · intro w hSw
            try dsimp only at hSw
            have g1 := (hSw.cell hbt (fun q => q) (ot + q)).trans hcx
            go_simp
            try with_reducible rfl
          try simp only [List.getElem_toArray, List.getElem_cons_succ, List.getElem_cons_zero, Act.put, List.setIfInBounds_toArray, List.set_cons_zero, List.set_cons_succ]
          refine wpAnyH_ready (rs := [8]) (by kernel_rfl) (by simp) ?_
          refine AllReadyH.cons rfl (fun Kc hKc => ?_) AllReadyH.nil
          go_simp
          refine (HB.out _).mono ?_
          rintro e wA ⟨rfl, MA⟩
          have AA := Lib.hid ((Mod.refl (fun _ => False) wr).drew.same MA)
          clear MA
          go_wp2_with fail
          refine hKc.out _ _ (by (try dsimp only); exact AA.out) (fun hHeld => ?_)
          clear hKc Kc
          try simp only [List.getElem_toArray, List.getElem_cons_succ, List.getElem_cons_zero, Act.put, List.setIfInBounds_toArray, List.set_cons_zero, List.set_cons_succ]
          refine wpAnyH_take (i := 9) (v := ?_) rfl (by kernel_rfl) (by kernel_rfl) (by kernel_rfl) (fun _ _ _ h => h) (Or.inl ⟨by rfl, ?_⟩) (by assumption) ?_
          rotate_left
          · intro w hSw
            try dsimp only at hSw
            go_simp
            try with_reducible rfl
          try simp only [List.getElem_toArray, List.getElem_cons_succ, List.getElem_cons_zero, Act.put, List.setIfInBounds_toArray, List.set_cons_zero, List.set_cons_succ]
          refine wpAnyH_take (i := 15) (v := ?_) rfl (by kernel_rfl) (by kernel_rfl) (by kernel_rfl) (fun _ _ _ h => h) (Or.inl ⟨by rfl, ?_⟩) (by assumption) ?_
          rotate_left
          · intro w hSw
            try dsimp only at hSw
            go_simp
            try with_reducible rfl
          try simp only [List.getElem_toArray, List.getElem_cons_succ, List.getElem_cons_zero, Act.put, List.setIfInBounds_toArray, List.set_cons_zero, List.set_cons_succ]
          refine wpAnyH_take (i := 16) (v := ?_) rfl (by kernel_rfl) (by kernel_rfl) (by kernel_rfl) (fun _ _ _ h => h) (Or.inl ⟨by rfl, ?_⟩) (by assumption) ?_
          rotate_left
          · intro w hSw
            try dsimp only at hSw
            go_simp
            try with_reducible rfl
          try simp only [List.getElem_toArray, List.getElem_cons_succ, List.getElem_cons_zero, Act.put, List.setIfInBounds_toArray, List.set_cons_zero, List.set_cons_succ]
          refine wpAnyH_done (by kernel_rfl) ?_ _
          have L2 := Lib.hid (L1.out.same AA.out)
          clear hb1 hcx L1 AA HB hz2
          go_wp2_with fail
          go_roundw
          case rel => exact ⟨q + 1, by omega, by go_num, by rw [E.out, ← str_app, ← str_app], L2.out⟩
          case measure => simp [intOf]; omega
        · obtain rfl : q = m := by omega
          have e1 : ts.take q = ts := List.take_of_length_le (by rw [HTL.out]; exact Nat.le_refl _)
          rw [e1]
          clear hM e1
          go_wp2
          exact HR.out _ _ ⟨rfl, S0.out.same L1.out⟩
end Go.Proofs.YtdengmlidckkeaaGreatDoor
namespace Go.Proofs.YtdengmlidckkeaaGreatDoor
open Go Go.RowKit
theorem gNums_snoc : ∀ (n : Nat) (l : List UInt8) (xs : List Int) (r : List UInt8), gNums n l = some (xs, r) → gNums (n + 1) l = match gNum r with
    | none => none
    | some (x, q) => some (xs ++ [x], q)
  | 0, l, xs, r, h => by
    cases h
    unfold gNums gNums
    cases gNum l with
    | none => rfl
    | some p => rfl
  | n + 1, l, xs, r, h => by
    unfold gNums at h
    unfold gNums
    cases hg : gNum l with
    | none => rw [hg] at h; cases h
    | some p =>
      obtain ⟨y, q⟩ := p
      rw [hg] at h
      dsimp only at h ⊢
      cases hg2 : gNums n q with
      | none => rw [hg2] at h; cases h
      | some p =>
        obtain ⟨ys, q2⟩ := p
        rw [hg2] at h
        cases h
        rw [gNums_snoc n q ys r hg2]
        cases gNum r with
        | none => rfl
        | some p => rfl
theorem gTxts_snoc : ∀ (n : Nat) (l : List UInt8) (xs : List (List UInt8)) (r : List UInt8), gTxts n l = some (xs, r) → gTxts (n + 1) l = match gTxt r with
    | none => none
    | some (x, q) => some (xs ++ [x], q)
  | 0, l, xs, r, h => by
    cases h
    unfold gTxts gTxts
    cases gTxt l with
    | none => rfl
    | some p => rfl
  | n + 1, l, xs, r, h => by
    unfold gTxts at h
    unfold gTxts
    cases hg : gTxt l with
    | none => rw [hg] at h; cases h
    | some p =>
      obtain ⟨y, q⟩ := p
      rw [hg] at h
      dsimp only at h ⊢
      cases hg2 : gTxts n q with
      | none => rw [hg2] at h; cases h
      | some p =>
        obtain ⟨ys, q2⟩ := p
        rw [hg2] at h
        cases h
        rw [gTxts_snoc n q ys r hg2]
        cases gTxt r with
        | none => rfl
        | some p => rfl
theorem gNums_stop {n : Nat} {l : List UInt8} (h : gNums n l = none) : ∀ d, gNums (n + d) l = none
  | 0 => h
  | d + 1 => by
    have ih := gNums_stop h d
    rw [← Nat.add_assoc]
    generalize n + d = m at *
    clear h
    induction m generalizing l with
    | zero => cases ih
    | succ m im =>
      unfold gNums at ih ⊢
      cases hg : gNum l with
      | none => rfl
      | some p =>
        obtain ⟨y, q⟩ := p
        rw [hg] at ih
        dsimp only at ih ⊢
        cases hg2 : gNums m q with
        | none => rw [im hg2]
        | some p => rw [hg2] at ih; cases ih
theorem gTxts_stop {n : Nat} {l : List UInt8} (h : gTxts n l = none) : ∀ d, gTxts (n + d) l = none
  | 0 => h
  | d + 1 => by
    have ih := gTxts_stop h d
    rw [← Nat.add_assoc]
    generalize n + d = m at *
    clear h
    induction m generalizing l with
    | zero => cases ih
    | succ m im =>
      unfold gTxts at ih ⊢
      cases hg : gTxt l with
      | none => rfl
      | some p =>
        obtain ⟨y, q⟩ := p
        rw [hg] at ih
        dsimp only at ih ⊢
        cases hg2 : gTxts m q with
        | none => rw [im hg2]
        | some p => rw [hg2] at ih; cases ih
theorem cut_bytes (l : List UInt8) (i n : Nat) : (⟨l.toArray⟩ : ByteArray).extract i (i + n) = ⟨((l.drop i).take n).toArray⟩ := by
  apply ByteArray.ext
  rw [ByteArray.data_extract]
  apply Array.ext'
  simp [Array.toList_extract, List.extract_eq_take_drop]
theorem info3x : (Tryz.prog.info? 3).map (fun i => (i.zero, i.size, i.bytes)) = some (some (.int .i64 0), 1, 8) := by kernel_rfl
theorem info9x : (Tryz.prog.info? 9).map (fun i => (i.zero, i.size, i.bytes)) = some (some (.string ⟨#[]⟩), 1, 16) := by kernel_rfl
/-- The rows' blocks are two. -/
theorem own_two {w : World} {B n m : Nat} {v u : Value} {xs ys : List Value} (h1 : w.ownsRow B 3 1 v n xs) (h2 : w.ownsRow B 9 1 u m ys) : (u.ownBlock = none ∨ u.ownBlock ≠ v.ownBlock) ∧ (v.ownBlock = none ∨ v.ownBlock ≠ u.ownBlock) := by
  have key : ∀ g, v.ownBlock = some g → u.ownBlock = some g → False := by
    intro g h h'
    obtain ⟨c, f, e⟩ := owns_kind h1 g h
    obtain ⟨c', f', e'⟩ := owns_kind h2 g h'
    rw [e] at e'
    exact absurd e' (by simp)
  constructor
  · cases hu : u.ownBlock with
    | none => exact .inl rfl
    | some g => exact .inr fun e => key g e.symm hu
  · cases hv : v.ownBlock with
    | none => exact .inl rfl
    | some g => exact .inr fun e => key g hv e.symm
theorem row_of_owns {w : World} {B e n : Nat} {a : Option Addr} {c : Nat} {xs : List Value} (h : w.ownsRow B e 1 (.slice a n c) n xs) : RowAt w a xs := by
  intro hp
  have hn : 0 < n := by have := h.1; omega
  obtain ⟨g, cap, hv, hb, hc, hrow⟩ := RowV.of_owns h hn
  injection hv with ha _ _
  refine ⟨g, 0, ha, hrow.lt, fun i v hi => ?_⟩
  have hl : i < xs.length := (List.getElem?_eq_some_iff.1 hi).1
  rw [Nat.zero_add]
  refine (hrow.cell i (by have := h.1; omega)).trans ?_
  rw [List.getD_eq_getElem?_getD, hi]; rfl
/-- A row in memory, of a block whose cells are of a type. -/
def RowT (w : World) (a : Option Addr) (vs : List Value) (T : TypeId) : Prop := 0 < vs.length → ∃ b o, a = some ⟨b, o, none⟩ ∧ b < w.heap.size ∧ (∃ c fz, w.heap[b]? = some (.cells c T fz)) ∧ ∀ i v, vs[i]? = some v → w.cell? ⟨b, o + i, none⟩ = some v
theorem RowT.row {w : World} {a : Option Addr} {vs : List Value} {T : TypeId} (h : RowT w a vs T) : RowAt w a vs := fun hp => by
  obtain ⟨b, o, h1, h2, _, h4⟩ := h hp
  exact ⟨b, o, h1, h2, h4⟩
theorem RowT.same {w w' : World} {a : Option Addr} {vs : List Value} {T : TypeId} (h : RowT w a vs T) (M : Same w w') : RowT w' a vs T := fun hp => by
  obtain ⟨b, o, h1, h2, ⟨c, fz, h3⟩, h4⟩ := h hp
  exact ⟨b, o, h1, Nat.lt_of_lt_of_le h2 M.size, ⟨c, fz, (M.block b h2 (fun q => q)).trans h3⟩, fun i v hi => (M.cell h2 (fun q => q) _).trans (h4 i v hi)⟩
theorem rowT_of_owns {w : World} {B e n : Nat} {a : Option Addr} {c : Nat} {xs : List Value} (h : w.ownsRow B e 1 (.slice a n c) n xs) : RowT w a xs e := by
  intro hp
  have hn : 0 < n := by have := h.1; omega
  obtain ⟨g, cap, hv, hb, hc, hrow⟩ := RowV.of_owns h hn
  have hk := owns_kind h
  injection hv with ha _ _
  subst ha
  refine ⟨g, 0, rfl, hrow.lt, hk g rfl, fun i v hi => ?_⟩
  have hl : i < xs.length := (List.getElem?_eq_some_iff.1 hi).1
  rw [Nat.zero_add]
  refine (hrow.cell i (by have := h.1; omega)).trans ?_
  rw [List.getD_eq_getElem?_getD, hi]; rfl
theorem mapI_snoc (xs : List Int) (x : Int) : xs.map (Value.int .i64) ++ [.int .i64 x] = (xs ++ [x]).map (Value.int .i64) := by rw [List.map_append]; rfl
theorem mapS_snoc (xs : List (List UInt8)) (x : List UInt8) : xs.map strV ++ [.string ⟨x.toArray⟩] = (xs ++ [x]).map strV := by rw [List.map_append]; rfl
theorem gNum_at (l : List UInt8) (p : Nat) : gNum (l.drop p) = if l.length - p < 8 then none else some (IntKind.i64.wrap (leV ((l.drop p).take 8)), l.drop (p + 8)) := by
  unfold gNum
  rw [List.length_drop, List.drop_drop]
theorem gTxt_at (l : List UInt8) (p : Nat) : gTxt (l.drop p) = if l.length - p < 2 then none else if 512 < gLen (l.drop p) ∨ l.length - p - 2 < gLen (l.drop p) then none else some ((l.drop (p + 2)).take (gLen (l.drop p)), l.drop (p + 2 + gLen (l.drop p))) := by
  unfold gTxt
  rw [List.length_drop, List.drop_drop, List.drop_drop]
theorem gLen_int (l : List UInt8) : leV (l.take 2) = (gLen l : Int) ∧ gLen l < 65536 := by
  have h1 := leV_bd (l.take 2)
  have h2 : (l.take 2).length ≤ 2 := by rw [List.length_take]; omega
  have h3 : (256 : Int) ^ (l.take 2).length ≤ 65536 := by
    have : (l.take 2).length = 0 ∨ (l.take 2).length = 1 ∨ (l.take 2).length = 2 := by omega
    rcases this with e | e | e <;> rw [e] <;> decide
  unfold gLen
  omega
/-- How many numbers and texts: of none, and of each kind (the table of layer 38). -/
def cntT : List Int := [0, 0, 2, 0, 1, 0, 2, 0, 2, 0, 1, 0, 1, 0, 3, 0, 2, 1, 3, 0, 0, 0, 1, 0, 0, 0, 0, 0, 1, 0, 0, 3]
theorem cntT_at : ∀ k, k < 15 → cntT[2 * (k + 1)]? = some ((nN k : Nat) : Int) ∧ cntT[2 * (k + 1) + 1]? = some ((nD k : Nat) : Int) := by decide
theorem counts38_any (w : World) : Calls Tryz.prog 55 #[] w fun e w' => ∃ g, e = .returned (.slice (some ⟨g, 0, none⟩) 16 16) ∧ Blk w' g (cntT.map (Value.int .i64)).toArray ∧ Same w w' := by
  refine opq fun R HR => ?_
  go_enter Tryz.func55, Tryz.ntmps55
  go_wp2_with fail
  exact HR.out _ _ ⟨w.heap.size, rfl, Blk.new w _ _, (Mod.refl _ _).alloc _⟩
/-- What the document's Read hands back. -/
def ReadA (l : List UInt8) (w : World) (e : Ending) (w' : World) : Prop := (match gOrd l with
  | none => e = .returned (.tuple #[.agg #[.int .i64 0, .slice none 0 0, .slice none 0 0], .int .i64 0])
  | some (o, r) => ∃ a1 c1 a2 c2, e = .returned (.tuple #[.agg #[.int .i64 ((o.k : Int) + 1), .slice a1 o.ns.length c1, .slice a2 o.ts.length c2], .int .i64 ((l.length : Int) - r.length)]) ∧ RowT w' a1 (o.ns.map (Value.int .i64)) 3 ∧ RowT w' a2 (o.ts.map strV) 9) ∧ Same w w'
set_option maxRecDepth 10000 in
set_option maxHeartbeats 8000000 in
theorem refread_none (l : List UInt8) (w : World) (h : l = [] ∨ ∃ b r, l = b :: r ∧ (b.toNat = 0 ∨ 15 < b.toNat)) : Calls Tryz.prog 28 #[.string ⟨l.toArray⟩] w (ReadA l w) := by
  refine opq fun R HR => ?_
  have hbs := bytes_size l
  have S0 := Lib.hid (((Mod.refl (fun _ => False) w).alloc (.cells #[.int .i64 0, .slice none 0 0, .slice none 0 0] 32)).alloc (.cells #[.int .i64 0, .slice none 0 0, .slice none 0 0] 32))
  have B2 := Lib.hid ((Blk.new w #[.int .i64 0, .slice none 0 0, .slice none 0 0] 32).alloc (.cells #[.int .i64 0, .slice none 0 0, .slice none 0 0] 32))
  have B4 := Lib.hid (Blk.new (w.alloc (.cells #[.int .i64 0, .slice none 0 0, .slice none 0 0] 32)) #[.int .i64 0, .slice none 0 0, .slice none 0 0] 32)
  rw [World.size_alloc] at B4
  unfold ReadA at HR
  rcases h with rfl | ⟨b, r, rfl, hb⟩
  · have hg : gOrd [] = none := rfl
    rw [hg] at HR
    dsimp only at HR
    clear hg
    go_enter Tryz.func28, Tryz.ntmps28
    go_wp2_with fail
    exact bodyPost_ret (v := .tuple #[.agg #[.int .i64 0, .slice none 0 0, .slice none 0 0], .int .i64 0]) (by simp [results, Tryz.results28, go_sem]) rfl (HR.out _ _ ⟨rfl, S0.out⟩)
  · have hg : gOrd (b :: r) = none := by rw [gOrd_cons, if_pos hb]
    rw [hg] at HR
    dsimp only at HR
    clear hg
    have kx := fun W => idx_any (b :: r) 0 b rfl 0 rfl W
    have hl0 : ((b :: r).length : Int) = (r.length : Int) + 1 := by rw [List.length_cons]; omega
    have hle : (((b :: r).length : Int) == 0) = false := by rw [beq_eq_false_iff_ne]; omega
    have hb8 := b.toNat_lt
    generalize b :: r = l at *
    rcases hb with h0 | h15
    · have q1 : decide ((b.toNat : Int) < 1) = true := decide_eq_true (by omega)
      clear h0
      go_enter Tryz.func28, Tryz.ntmps28
      go_wp2_with fail
      exact bodyPost_ret (v := .tuple #[.agg #[.int .i64 0, .slice none 0 0, .slice none 0 0], .int .i64 0]) (by simp [results, Tryz.results28, go_sem]) rfl (HR.out _ _ ⟨rfl, S0.out⟩)
    · have q1 : decide ((b.toNat : Int) < 1) = false := decide_eq_false (by omega)
      have q2 : decide ((15 : Int) < (b.toNat : Int)) = true := decide_eq_true (by omega)
      clear h15
      go_enter Tryz.func28, Tryz.ntmps28
      go_wp2_with fail
      exact bodyPost_ret (v := .tuple #[.agg #[.int .i64 0, .slice none 0 0, .slice none 0 0], .int .i64 0]) (by simp [results, Tryz.results28, go_sem]) rfl (HR.out _ _ ⟨rfl, S0.out⟩)
set_option maxRecDepth 10000 in
set_option maxHeartbeats 8000000 in
theorem refread_some (b : UInt8) (r0 : List UInt8) (hb : ¬ (b.toNat = 0 ∨ 15 < b.toNat)) (hl : (b :: r0).length ≤ 100000) (w : World) : Calls Tryz.prog 28 #[.string ⟨(b :: r0).toArray⟩] w (ReadA (b :: r0) w) := by
  refine opq fun R HR => ?_
  have hbs := bytes_size (b :: r0)
  unfold ReadA at HR
  rw [gOrd_cons, if_neg hb] at HR
  obtain ⟨K, hK⟩ : ∃ K, b.toNat = K + 1 := ⟨b.toNat - 1, by omega⟩
  have hK15 : K < 15 := by omega
  rw [hK, Nat.add_sub_cancel] at HR
  have kx := fun W => idx_any (b :: r0) 0 b rfl 0 rfl W
  rw [hK] at kx
  obtain ⟨hc0, hc1⟩ := cntT_at K hK15
  have HC0 := Lib.hid hc0
  have HC1 := Lib.hid hc1
  have h3 : ∀ k, k < 15 → nN k ≤ 3 ∧ nD k ≤ 3 := by decide
  obtain ⟨hn3, hm3⟩ := h3 K hK15
  have hd1 : (b :: r0).drop 1 = r0 := rfl
  have HD1 := Lib.hid hd1
  have hle : (((b :: r0).length : Int) == 0) = false := by rw [beq_eq_false_iff_ne, List.length_cons]; omega
  have q1 : decide ((K : Int) + 1 < 1) = false := decide_eq_false (by omega)
  have q2 : decide ((15 : Int) < (K : Int) + 1) = false := decide_eq_false (by omega)
  have hl1 : 1 ≤ (b :: r0).length := by rw [List.length_cons]; omega
  clear hc0 hc1 h3 hd1 hb hK
  generalize b :: r0 = l at *
  generalize nN K = cn at *
  generalize nD K = cd at *
  have S0 := Lib.hid ((((Mod.refl (fun _ => False) w).alloc (.cells #[.int .i64 0, .slice none 0 0, .slice none 0 0] 32)).alloc (.cells #[.int .i64 0, .slice none 0 0, .slice none 0 0] 32)).alloc (.cells #[.int .i64 ((K : Int) + 1), .slice none 0 0, .slice none 0 0] 32))
  have B2 := Lib.hid (((Blk.new w #[.int .i64 0, .slice none 0 0, .slice none 0 0] 32).alloc (.cells #[.int .i64 0, .slice none 0 0, .slice none 0 0] 32)).alloc (.cells #[.int .i64 ((K : Int) + 1), .slice none 0 0, .slice none 0 0] 32))
  have B4 := Lib.hid ((Blk.new (w.alloc (.cells #[.int .i64 0, .slice none 0 0, .slice none 0 0] 32)) #[.int .i64 0, .slice none 0 0, .slice none 0 0] 32).alloc (.cells #[.int .i64 ((K : Int) + 1), .slice none 0 0, .slice none 0 0] 32))
  have B5 := Lib.hid (Blk.new ((w.alloc (.cells #[.int .i64 0, .slice none 0 0, .slice none 0 0] 32)).alloc (.cells #[.int .i64 0, .slice none 0 0, .slice none 0 0] 32)) #[.int .i64 ((K : Int) + 1), .slice none 0 0, .slice none 0 0] 32)
  simp only [World.size_alloc] at B4 B5
  go_enter Tryz.func28, Tryz.ntmps28
  go_wp2_with fail
  generalize ((w.alloc _).alloc _).alloc _ = W at *
  generalize hZ : w.heap.size = Z at *
  have hk1 : (0 : Int) ≤ (K : Int) + 1 := by omega
  have hk2 : (K : Int) + 1 < 16 := by omega
  have hk3 : ((K : Int) + 1).toNat = K + 1 := by omega
  have hz5 : W.cell? ⟨Z + 1 + 1, 0, none⟩ = some (.int .i64 ((K : Int) + 1)) := B5.out.cell 0
  have hl5 := B5.out.lt
  clear q1 q2 hle kx
  go_cut [6] (fun v wx => ∃ g6, v = .pointer (some ⟨g6, 0, none⟩) ∧ W.heap.size ≤ g6 ∧ Blk wx g6 #[.int .i64 (cn : Int), .int .i64 (cd : Int)] ∧ Same W wx)
  case first =>
    have HCN := Lib.hid (fun (wB : World) (g : Nat) (h : Blk wB g (cntT.map (Value.int .i64)).toArray) => show wB.cell? ⟨g, (K + 1) * 2, none⟩ = some (.int .i64 (cn : Int)) ∧ wB.cell? ⟨g, (K + 1) * 2 + 1, none⟩ = some (.int .i64 (cd : Int)) from ⟨(h.cell _).trans (by rw [Nat.mul_comm, List.getElem?_toArray, List.getElem?_map, HC0.out]; rfl), (h.cell _).trans (by rw [Nat.mul_comm, List.getElem?_toArray, List.getElem?_map, HC1.out]; rfl)⟩)
    refine wp_region_held_drew (S := fun w' => w'.cell? ⟨Z + 1 + 1, 0, none⟩ = some (.int .i64 ((K : Int) + 1))) (by kernel_rfl) (by (try dsimp only); first | exact hz5 | exact hzA | exact hzB | (rw [World.cell?_setCell_other _ _ _ _ (fun e => by injection e; omega), World.cell?_setCell_other _ _ _ _ (fun e => by injection e; omega)]; exact hzA) | (simp [World.cell?_alloc_some, hz5]; done) | (simp [World.cell?_alloc_some, hzA]; done)) (fun hHeld => ?_)
    refine wpAnyH_take (i := 1) (v := ?_) rfl (by kernel_rfl) (by kernel_rfl) (by kernel_rfl) (fun _ _ _ h => h) (Or.inl ⟨by rfl, ?_⟩) (by assumption) ?_
    rotate_left
    · intro w hSw
      try dsimp only at hSw
      go_simp
      try with_reducible rfl
    try simp only [List.getElem_toArray, List.getElem_cons_succ, List.getElem_cons_zero, Act.put, List.setIfInBounds_toArray, List.set_cons_zero, List.set_cons_succ]
    refine wpAnyH_take (i := 2) (v := ?_) rfl (by kernel_rfl) (by kernel_rfl) (by kernel_rfl) (fun _ _ _ h => h) (Or.inl ⟨by rfl, ?_⟩) (by assumption) ?_
    rotate_left
    · intro w hSw
      try dsimp only at hSw
      go_simp
      try with_reducible rfl
    try simp only [List.getElem_toArray, List.getElem_cons_succ, List.getElem_cons_zero, Act.put, List.setIfInBounds_toArray, List.set_cons_zero, List.set_cons_succ]
    refine wpAnyH_ready (rs := [0, 5]) (by kernel_rfl) (by simp) ?_
    refine AllReadyH.cons rfl (fun Kc hKc => ?_) (AllReadyH.cons rfl (fun Kc hKc => ?_) (AllReadyH.nil))
    · go_simp
      refine (counts38_any _).mono ?_
      rintro e wA ⟨g, rfl, hBA, MA⟩
      have AA := Lib.hid ((Mod.refl (fun _ => False) W).drew.same MA)
      have hzA := (AA.out.cell hl5 (fun q => q) 0).trans hz5
      obtain ⟨hcA0, hcA1⟩ := HCN.out wA g hBA
      clear MA hBA
      go_wp2_with fail
      refine hKc.out _ _ (by (try dsimp only); first | exact hz5 | exact hzA | exact hzB | (rw [World.cell?_setCell_other _ _ _ _ (fun e => by injection e; omega), World.cell?_setCell_other _ _ _ _ (fun e => by injection e; omega)]; exact hzA) | (simp [World.cell?_alloc_some, hz5]; done) | (simp [World.cell?_alloc_some, hzA]; done)) (fun hHeld => ?_)
      clear hKc Kc
      try simp only [List.getElem_toArray, List.getElem_cons_succ, List.getElem_cons_zero, Act.put, List.setIfInBounds_toArray, List.set_cons_zero, List.set_cons_succ]
      refine wpAnyH_take (i := 3) (v := ?_) rfl (by kernel_rfl) (by kernel_rfl) (by kernel_rfl) (fun _ _ _ h => h) (Or.inl ⟨by rfl, ?_⟩) (by assumption) ?_
      rotate_left
      · intro w hSw
        try dsimp only at hSw
        go_simp
        try with_reducible rfl
      try simp only [List.getElem_toArray, List.getElem_cons_succ, List.getElem_cons_zero, Act.put, List.setIfInBounds_toArray, List.set_cons_zero, List.set_cons_succ]
      refine wpAnyH_ready (rs := [4, 5]) (by kernel_rfl) (by simp) ?_
      refine AllReadyH.cons rfl (fun Kc hKc => ?_) (AllReadyH.cons rfl (fun Kc hKc => ?_) (AllReadyH.nil))
      · go_simp
        refine hKc.out _ _ (by (try dsimp only); first | exact hz5 | exact hzA | exact hzB | (rw [World.cell?_setCell_other _ _ _ _ (fun e => by injection e; omega), World.cell?_setCell_other _ _ _ _ (fun e => by injection e; omega)]; exact hzA) | (simp [World.cell?_alloc_some, hz5]; done) | (simp [World.cell?_alloc_some, hzA]; done)) (fun hHeld => ?_)
        clear hKc Kc
        try simp only [List.getElem_toArray, List.getElem_cons_succ, List.getElem_cons_zero, Act.put, List.setIfInBounds_toArray, List.set_cons_zero, List.set_cons_succ]
        refine wpAnyH_ready (rs := [5]) (by kernel_rfl) (by simp) ?_
        refine AllReadyH.cons rfl (fun Kc hKc => ?_) AllReadyH.nil
        go_simp
        refine hKc.out _ _ (by (try dsimp only); first | exact hz5 | exact hzA | exact hzB | (rw [World.cell?_setCell_other _ _ _ _ (fun e => by injection e; omega), World.cell?_setCell_other _ _ _ _ (fun e => by injection e; omega)]; exact hzA) | (simp [World.cell?_alloc_some, hz5]; done) | (simp [World.cell?_alloc_some, hzA]; done)) (fun hHeld => ?_)
        clear hKc Kc
        try simp only [List.getElem_toArray, List.getElem_cons_succ, List.getElem_cons_zero, Act.put, List.setIfInBounds_toArray, List.set_cons_zero, List.set_cons_succ]
        refine wpAnyH_ready (rs := [6]) (by kernel_rfl) (by simp) ?_
        refine AllReadyH.cons rfl (fun Kc hKc => ?_) AllReadyH.nil
        go_simp
        refine hKc.out _ _ (by (try dsimp only); first | exact hz5 | exact hzA | exact hzB | (rw [World.cell?_setCell_other _ _ _ _ (fun e => by injection e; omega), World.cell?_setCell_other _ _ _ _ (fun e => by injection e; omega)]; exact hzA) | (simp [World.cell?_alloc_some, hz5]; done) | (simp [World.cell?_alloc_some, hzA]; done)) (fun hHeld => ?_)
        clear hKc Kc
        try simp only [List.getElem_toArray, List.getElem_cons_succ, List.getElem_cons_zero, Act.put, List.setIfInBounds_toArray, List.set_cons_zero, List.set_cons_succ]
        refine wpAnyH_done (by kernel_rfl) ?_ _
        go_wp2_with go_in
        go_meet
        exact ⟨_, rfl, AA.out.size, Blk.new wA _ _, AA.out.alloc _⟩
      · go_simp
        refine hKc.out _ _ (by (try dsimp only); first | exact hz5 | exact hzA | exact hzB | (rw [World.cell?_setCell_other _ _ _ _ (fun e => by injection e; omega), World.cell?_setCell_other _ _ _ _ (fun e => by injection e; omega)]; exact hzA) | (simp [World.cell?_alloc_some, hz5]; done) | (simp [World.cell?_alloc_some, hzA]; done)) (fun hHeld => ?_)
        clear hKc Kc
        try simp only [List.getElem_toArray, List.getElem_cons_succ, List.getElem_cons_zero, Act.put, List.setIfInBounds_toArray, List.set_cons_zero, List.set_cons_succ]
        have hcB0 := (World.cell?_alloc_some wA ⟨g, (K + 1) * 2, none⟩ (Obj.cells #[.int .i64 0, .int .i64 0] 107) (by rw [hcA0]; rfl)).trans hcA0
        have hcB1 := (World.cell?_alloc_some wA ⟨g, (K + 1) * 2 + 1, none⟩ (Obj.cells #[.int .i64 0, .int .i64 0] 107) (by rw [hcA1]; rfl)).trans hcA1
        refine wpAnyH_ready (rs := [4]) (by kernel_rfl) (by simp) ?_
        refine AllReadyH.cons rfl (fun Kc hKc => ?_) AllReadyH.nil
        go_simp
        refine hKc.out _ _ (by (try dsimp only); first | exact hz5 | exact hzA | exact hzB | (rw [World.cell?_setCell_other _ _ _ _ (fun e => by injection e; omega), World.cell?_setCell_other _ _ _ _ (fun e => by injection e; omega)]; exact hzA) | (simp [World.cell?_alloc_some, hz5]; done) | (simp [World.cell?_alloc_some, hzA]; done)) (fun hHeld => ?_)
        clear hKc Kc
        try simp only [List.getElem_toArray, List.getElem_cons_succ, List.getElem_cons_zero, Act.put, List.setIfInBounds_toArray, List.set_cons_zero, List.set_cons_succ]
        refine wpAnyH_ready (rs := [6]) (by kernel_rfl) (by simp) ?_
        refine AllReadyH.cons rfl (fun Kc hKc => ?_) AllReadyH.nil
        go_simp
        refine hKc.out _ _ (by (try dsimp only); first | exact hz5 | exact hzA | exact hzB | (rw [World.cell?_setCell_other _ _ _ _ (fun e => by injection e; omega), World.cell?_setCell_other _ _ _ _ (fun e => by injection e; omega)]; exact hzA) | (simp [World.cell?_alloc_some, hz5]; done) | (simp [World.cell?_alloc_some, hzA]; done)) (fun hHeld => ?_)
        clear hKc Kc
        try simp only [List.getElem_toArray, List.getElem_cons_succ, List.getElem_cons_zero, Act.put, List.setIfInBounds_toArray, List.set_cons_zero, List.set_cons_succ]
        refine wpAnyH_done (by kernel_rfl) ?_ _
        go_wp2_with go_in
        go_meet
        exact ⟨_, rfl, AA.out.size, Blk.new wA _ _, AA.out.alloc _⟩
    · go_simp
      refine hKc.out _ _ (by (try dsimp only); first | exact hz5 | exact hzA | exact hzB | (rw [World.cell?_setCell_other _ _ _ _ (fun e => by injection e; omega), World.cell?_setCell_other _ _ _ _ (fun e => by injection e; omega)]; exact hzA) | (simp [World.cell?_alloc_some, hz5]; done) | (simp [World.cell?_alloc_some, hzA]; done)) (fun hHeld => ?_)
      clear hKc Kc
      try simp only [List.getElem_toArray, List.getElem_cons_succ, List.getElem_cons_zero, Act.put, List.setIfInBounds_toArray, List.set_cons_zero, List.set_cons_succ]
      refine wpAnyH_ready (rs := [0]) (by kernel_rfl) (by simp) ?_
      refine AllReadyH.cons rfl (fun Kc hKc => ?_) AllReadyH.nil
      go_simp
      refine (counts38_any _).mono ?_
      rintro e wA ⟨g, rfl, hBA, MA⟩
      have AA := Lib.hid (((Mod.refl (fun _ => False) W).drew.alloc _).same MA)
      have hzA := (AA.out.cell hl5 (fun q => q) 0).trans hz5
      obtain ⟨hcA0, hcA1⟩ := HCN.out wA g hBA
      have B6 := Lib.hid (show Blk wA W.heap.size #[.int .i64 0, .int .i64 0] from (Blk.new W.drew #[.int .i64 0, .int .i64 0] 107).mod MA (fun q => q))
      have hb6 := B6.out.cell
      have hf6 := B6.out.free
      have hl6 := B6.out.lt
      clear MA hBA
      go_wp2_with fail
      refine hKc.out _ _ (by (try dsimp only); first | exact hz5 | exact hzA | exact hzB | (rw [World.cell?_setCell_other _ _ _ _ (fun e => by injection e; omega), World.cell?_setCell_other _ _ _ _ (fun e => by injection e; omega)]; exact hzA) | (simp [World.cell?_alloc_some, hz5]; done) | (simp [World.cell?_alloc_some, hzA]; done)) (fun hHeld => ?_)
      clear hKc Kc
      try simp only [List.getElem_toArray, List.getElem_cons_succ, List.getElem_cons_zero, Act.put, List.setIfInBounds_toArray, List.set_cons_zero, List.set_cons_succ]
      refine wpAnyH_take (i := 3) (v := ?_) rfl (by kernel_rfl) (by kernel_rfl) (by kernel_rfl) (fun _ _ _ h => h) (Or.inl ⟨by rfl, ?_⟩) (by assumption) ?_
      rotate_left
      · intro w hSw
        try dsimp only at hSw
        go_simp
        try with_reducible rfl
      try simp only [List.getElem_toArray, List.getElem_cons_succ, List.getElem_cons_zero, Act.put, List.setIfInBounds_toArray, List.set_cons_zero, List.set_cons_succ]
      refine wpAnyH_ready (rs := [4]) (by kernel_rfl) (by simp) ?_
      refine AllReadyH.cons rfl (fun Kc hKc => ?_) AllReadyH.nil
      go_simp
      refine hKc.out _ _ (by (try dsimp only); first | exact hz5 | exact hzA | exact hzB | (rw [World.cell?_setCell_other _ _ _ _ (fun e => by injection e; omega), World.cell?_setCell_other _ _ _ _ (fun e => by injection e; omega)]; exact hzA) | (simp [World.cell?_alloc_some, hz5]; done) | (simp [World.cell?_alloc_some, hzA]; done)) (fun hHeld => ?_)
      clear hKc Kc
      try simp only [List.getElem_toArray, List.getElem_cons_succ, List.getElem_cons_zero, Act.put, List.setIfInBounds_toArray, List.set_cons_zero, List.set_cons_succ]
      refine wpAnyH_ready (rs := [6]) (by kernel_rfl) (by simp) ?_
      refine AllReadyH.cons rfl (fun Kc hKc => ?_) AllReadyH.nil
      go_simp
      refine hKc.out _ _ (by (try dsimp only); first | exact hz5 | exact hzA | exact hzB | (rw [World.cell?_setCell_other _ _ _ _ (fun e => by injection e; omega), World.cell?_setCell_other _ _ _ _ (fun e => by injection e; omega)]; exact hzA) | (simp [World.cell?_alloc_some, hz5]; done) | (simp [World.cell?_alloc_some, hzA]; done)) (fun hHeld => ?_)
      clear hKc Kc
      try simp only [List.getElem_toArray, List.getElem_cons_succ, List.getElem_cons_zero, Act.put, List.setIfInBounds_toArray, List.set_cons_zero, List.set_cons_succ]
      refine wpAnyH_done (by kernel_rfl) ?_ _
      go_wp2_with go_in
      go_meet
      exact ⟨_, rfl, Nat.le_refl _, (B6.out.set 0 _).set 1 _, (AA.out.setCell (p := ⟨W.heap.size, 0, none⟩) (fun h => absurd h (Nat.lt_irrefl _)) _).setCell (p := ⟨W.heap.size, 1, none⟩) (fun h => absurd h (Nat.lt_irrefl _)) _⟩
  case rest =>
    obtain ⟨g6, rfl, hg6, hB6, hM6⟩ := hcut
    have hZl : W.heap.size ≤ wc.heap.size := hM6.size
    have J0 := Lib.hid (S0.out.same hM6)
    have C2 := Lib.hid (B2.out.mod hM6 (fun q => q))
    have C4 := Lib.hid (B4.out.mod hM6 (fun q => q))
    have C5 := Lib.hid (B5.out.mod hM6 (fun q => q))
    have C6 := Lib.hid hB6
    have hz5c : Z + 1 + 1 < wc.heap.size := C5.out.lt
    have hg6c : g6 < wc.heap.size := hB6.lt
    obtain ⟨i3, hi, hz0, hz1, hz2⟩ := info_parts info3x
    have I0 := Lib.hid hi
    have Y0 := Lib.hid hz0
    have Y1 := Lib.hid hz1
    have Y2 := Lib.hid hz2
    clear hi hz0 hz1 hz2
    obtain ⟨i9, hi, hz0, hz1, hz2⟩ := info_parts info9x
    have I9 := Lib.hid hi
    have X0 := Lib.hid hz0
    have X1 := Lib.hid hz1
    have X2 := Lib.hid hz2
    clear hi hz0 hz1 hz2 hz5 hB6 hM6 S0 B2 B4 B5 HC0 HC1 hk1 hk2 hk3
    go_wp2_with fail
    go_loopw [7, 8] (fun t i wr => ∃ (j p : Nat) (xs : List Int) (v : Value), j ≤ cn ∧ i = .int .i64 (j : Int) ∧ t = .int .i64 (p : Int) ∧ p ≤ l.length ∧ gNums j r0 = some (xs, l.drop p) ∧ Blk wr (Z + 1 + 1) #[.int .i64 ((K : Int) + 1), v, .slice none 0 0] ∧ wr.ownsRow wc.heap.size 3 1 v j (xs.map (Value.int .i64)) ∧ Mod (fun i => i = Z + 1 + 1) wc wr) (fun _ i _ => cn - (intOf i).toNat)
    case atStart => exact ⟨0, 1, [], .slice none 0 0, by omega, rfl, rfl, hl1, by rw [HD1.out]; rfl, C5.out, World.ownsRow_nil _ _ _ _, Mod.refl _ _⟩
    case round =>
      obtain ⟨j, p, xs, v, hj, rfl, rfl, hp, hgn, hB, hown, hM⟩ := hrel
      have K5 := Lib.hid hB
      have O1 := Lib.hid hown
      have MX := Lib.hid hM
      have hb6 := (C6.out.mod hM (by show ¬ g6 = Z + 1 + 1; omega)).cell
      have hwr : wc.heap.size ≤ wr.heap.size := hM.size
      have HG := Lib.hid hgn
      have h5r : Z + 1 + 1 < wr.heap.size := hB.lt
      clear hB hown hM hgn
      by_cases hlt : j < cn
      · have hga := gNum_at l p
        by_cases h8 : l.length - p < 8
        · rw [if_pos h8] at hga
          have hgz : gNums cn r0 = none := by
            have h1 : gNums (j + 1) r0 = none := by rw [gNums_snoc j r0 xs _ HG.out, hga]
            have := gNums_stop h1 (cn - (j + 1))
            rwa [show j + 1 + (cn - (j + 1)) = cn by omega] at this
          rw [hgz] at HR
          dsimp only at HR
          have d8 : decide ((l.length : Int) - (p : Int) < 8) = true := decide_eq_true (by omega)
          have h4 := (C4.out.mod MX.out (by omega)).cell
          clear hga hgz h8
          have RBx := (C2.out.mod MX.out (by omega))
          have rbc := RBx.cell
          have rbf := RBx.free
          have rbl := RBx.lt
          go_wp2_with fail
          have BF := ((RBx.set 0 (.int .i64 0)).set 1 (.slice none 0 0)).set 2 (.slice none 0 0)
          have g0 := BF.at_ (i := 0) (.int .i64 0) rfl
          have g1 := BF.at_ (i := 1) (.slice none 0 0) rfl
          have g2 := BF.at_ (i := 2) (.slice none 0 0) rfl
          have N5 := (((Mod.refl (fun i => i = Z) wr).setCell (p := ⟨Z, 0, none⟩) (fun _ => rfl) (.int .i64 0)).setCell (p := ⟨Z, 1, none⟩) (fun _ => rfl) (.slice none 0 0)).setCell (p := ⟨Z, 2, none⟩) (fun _ => rfl) (.slice none 0 0)
          clear rbc rbf BF
          generalize (((wr.setCell ⟨Z, 0, none⟩ (.int .i64 0)).setCell ⟨Z, 1, none⟩ (.slice none 0 0)).setCell ⟨Z, 2, none⟩ (.slice none 0 0)) = wF at *
          exact bodyPost_ret (v := .tuple #[.agg #[.int .i64 0, .slice none 0 0, .slice none 0 0], .int .i64 0]) (by simp [results, Tryz.results28, go_sem, g0, g1, g2]) rfl (HR.out _ _ ⟨rfl, (J0.out.then_ MX.out (fun i hi (e : i = Z + 1 + 1) => by omega)).then_ N5 (fun i hi (e : i = Z) => by omega)⟩)
        · rw [if_neg h8] at hga
          have d8 : decide ((l.length : Int) - (p : Int) < 8) = false := decide_eq_false (by omega)
          have hsl : ((l.drop p).take 8).length = 8 := by rw [List.length_take, List.length_drop]; omega
          have hb1 := leV_8 ((l.drop p).take 8) (by omega)
          have HN8 := Lib.hid (fun w => refN_any ((l.drop p).take 8) (by omega) w)
          have EX := Lib.hid (cut_bytes l p 8)
          have HS := Lib.hid (show gNums (j + 1) r0 = some (xs ++ [IntKind.i64.wrap (leV ((l.drop p).take 8))], l.drop (p + 8)) by rw [gNums_snoc j r0 xs _ HG.out, hga])
          have EM := Lib.hid (mapI_snoc xs (IntKind.i64.wrap (leV ((l.drop p).take 8))))
          have hw8 : IntKind.i64.wrap ((p : Int) + 8) = (p : Int) + 8 := IntWalk.i64_in _ (by omega)
          have hp1 : (0 : Int) ≤ (p : Int) := by omega
          have hp2 : (p : Int) ≤ (p : Int) + 8 := by omega
          have hp3 : (p : Int) + 8 ≤ (l.length : Int) := by omega
          have hp4 : ((p : Int) + 8).toNat = p + 8 := by omega
          have hz1v : wr.cell? ⟨Z + 1 + 1, 1, none⟩ = some v := K5.out.cell 1
          have hll : j + 1 ≤ maxLen := by unfold maxLen; omega
          have hlm : (j + 1) * 8 ≤ 140737488355328 := by omega
          clear hga h8 hsl
          generalize (l.drop p).take 8 = t8 at *
          generalize hvv : leV t8 = v8 at *
          go_wp2_with fail
          have hz1a := (World.cell?_alloc_some wr ⟨Z + 1 + 1, 1, none⟩ (Obj.cells #[.int .i64 (IntKind.i64.wrap v8)] 3) (by rw [hz1v]; rfl)).trans hz1v
          refine wp_region_held_drew (S := fun _ => True) (by kernel_rfl) (by (try dsimp only); all_goals trivial) (fun hHeld => ?_)
          refine wpAnyH_take (i := 0) (v := ?_) rfl (by kernel_rfl) (by kernel_rfl) (by kernel_rfl) (fun _ _ _ h => h) (Or.inl ⟨by rfl, ?_⟩) (by assumption) ?_
          rotate_left
          · intro w hSw
            try dsimp only at hSw
            go_simp
            try with_reducible rfl
          try simp only [List.getElem_toArray, List.getElem_cons_succ, List.getElem_cons_zero, Act.put, List.setIfInBounds_toArray, List.set_cons_zero, List.set_cons_succ]
          refine wpAnyH_take (i := 2) (v := ?_) rfl (by kernel_rfl) (by kernel_rfl) (by kernel_rfl) (fun _ _ _ h => h) (Or.inl ⟨by rfl, ?_⟩) (by assumption) ?_
          rotate_left
          · intro w hSw
            try dsimp only at hSw
            go_simp
            try with_reducible rfl
          try simp only [List.getElem_toArray, List.getElem_cons_succ, List.getElem_cons_zero, Act.put, List.setIfInBounds_toArray, List.set_cons_zero, List.set_cons_succ]
          refine wpAnyH_take (i := 3) (v := ?_) rfl (by kernel_rfl) (by kernel_rfl) (by kernel_rfl) (fun _ _ _ h => h) (Or.inl ⟨by rfl, ?_⟩) (by assumption) ?_
          rotate_left
          · intro w hSw
            try dsimp only at hSw
            go_simp
            try with_reducible rfl
          try simp only [List.getElem_toArray, List.getElem_cons_succ, List.getElem_cons_zero, Act.put, List.setIfInBounds_toArray, List.set_cons_zero, List.set_cons_succ]
          refine wpAnyH_take (i := 4) (v := ?_) rfl (by kernel_rfl) (by kernel_rfl) (by kernel_rfl) (fun _ _ _ h => h) (Or.inl ⟨by rfl, ?_⟩) (by assumption) ?_
          rotate_left
          · intro w hSw
            try dsimp only at hSw
            go_simp
            try with_reducible rfl
          try simp only [List.getElem_toArray, List.getElem_cons_succ, List.getElem_cons_zero, Act.put, List.setIfInBounds_toArray, List.set_cons_zero, List.set_cons_succ]
          refine wpAnyH_take (i := 5) (v := ?_) rfl (by kernel_rfl) (by kernel_rfl) (by kernel_rfl) (fun _ _ _ h => h) (Or.inl ⟨by rfl, ?_⟩) (by assumption) ?_
          rotate_left
          · intro w hSw
            try dsimp only at hSw
            go_simp
            try with_reducible rfl
          try simp only [List.getElem_toArray, List.getElem_cons_succ, List.getElem_cons_zero, Act.put, List.setIfInBounds_toArray, List.set_cons_zero, List.set_cons_succ]
          refine wpAnyH_take (i := 6) (v := ?_) rfl (by kernel_rfl) (by kernel_rfl) (by kernel_rfl) (fun _ _ _ h => h) (Or.inl ⟨by rfl, ?_⟩) (by assumption) ?_
          rotate_left
          · intro w hSw
            try dsimp only at hSw
            go_simp
            try with_reducible rfl
          try simp only [List.getElem_toArray, List.getElem_cons_succ, List.getElem_cons_zero, Act.put, List.setIfInBounds_toArray, List.set_cons_zero, List.set_cons_succ]
          refine wpAnyH_ready (rs := [1, 7]) (by kernel_rfl) (by simp) ?_
          refine AllReadyH.cons rfl (fun Kc hKc => ?_) (AllReadyH.cons rfl (fun Kc hKc => ?_) (AllReadyH.nil))
          · go_simp
            refine hKc.out _ _ (by (try dsimp only); all_goals trivial) (fun hHeld => ?_)
            clear hKc Kc
            try simp only [List.getElem_toArray, List.getElem_cons_succ, List.getElem_cons_zero, Act.put, List.setIfInBounds_toArray, List.set_cons_zero, List.set_cons_succ]
            refine wpAnyH_ready (rs := [7]) (by kernel_rfl) (by simp) ?_
            refine AllReadyH.cons rfl (fun Kc hKc => ?_) AllReadyH.nil
            go_simp
            rw [EX.out]
            refine (HN8.out _).mono ?_
            rintro e wA ⟨rfl, rfl⟩
            go_wp2_with fail
            refine hKc.out _ _ (by (try dsimp only); all_goals trivial) (fun hHeld => ?_)
            clear hKc Kc
            try simp only [List.getElem_toArray, List.getElem_cons_succ, List.getElem_cons_zero, Act.put, List.setIfInBounds_toArray, List.set_cons_zero, List.set_cons_succ]
            refine wpAnyH_take (i := 8) (v := ?_) rfl (by kernel_rfl) (by kernel_rfl) (by kernel_rfl) (fun _ _ _ h => h) (Or.inl ⟨by rfl, ?_⟩) (by assumption) ?_
            rotate_left
            · intro w hSw
              try dsimp only at hSw
              go_simp
              try with_reducible rfl
            try simp only [List.getElem_toArray, List.getElem_cons_succ, List.getElem_cons_zero, Act.put, List.setIfInBounds_toArray, List.set_cons_zero, List.set_cons_succ]
            refine wpAnyH_ready (rs := [9]) (by kernel_rfl) (by simp) ?_
            refine AllReadyH.cons rfl (fun Kc hKc => ?_) AllReadyH.nil
            go_simp
            refine hKc.out _ _ (by (try dsimp only); all_goals trivial) (fun hHeld => ?_)
            clear hKc Kc
            try simp only [List.getElem_toArray, List.getElem_cons_succ, List.getElem_cons_zero, Act.put, List.setIfInBounds_toArray, List.set_cons_zero, List.set_cons_succ]
            refine wpAnyH_ready (rs := [10]) (by kernel_rfl) (by simp) ?_
            refine AllReadyH.cons rfl (fun Kc hKc => ?_) AllReadyH.nil
            refine step_append_lies _ rfl (.tmp 48) (.tmp 56) 27 rfl wc.heap.size 3 i3 (.int .i64 0) 1 8 Tryz.underlying27 I0.out Y0.out Y1.out Y2.out rfl (by decide) _ _ _ (by simp [Act.eval, Act.put]) (O1.out.drew.alloc _) ⟨wr.heap.size, 0, none⟩ 1 1 [.int .i64 (IntKind.i64.wrap v8)] (by simp [Act.eval, Act.put]) rfl (one_new wr.drew _ _) (fun u hu => (by simp at hu; subst hu; rfl)) (by decide) hll hlm (by simp [World.size_alloc]; omega) (wr.heap.size + 1) (by simp) ?_
            intro g cap w5 hown' hgrow hgg hgl
            have P1 := Lib.hid (same_append MX.out.drew O1.out.drew hgrow)
            have P2 := Lib.hid hown'
            have P3 := Lib.hid (blk_append K5.out.drew hz5c O1.out.drew hgrow)
            have hbc7 := P3.out.cell
            have hbf7 := P3.out.free
            have hbl7 := P3.out.lt
            clear hown' hgrow hgg
            refine hKc.out _ _ (by (try dsimp only); all_goals trivial) (fun hHeld => ?_)
            clear hKc Kc
            try simp only [List.getElem_toArray, List.getElem_cons_succ, List.getElem_cons_zero, Act.put, List.setIfInBounds_toArray, List.set_cons_zero, List.set_cons_succ]
            refine wpAnyH_take (i := 11) (v := ?_) rfl (by kernel_rfl) (by kernel_rfl) (by kernel_rfl) (fun _ _ _ h => h) (Or.inl ⟨by rfl, ?_⟩) (by assumption) ?_
            rotate_left
            · intro w hSw
              try dsimp only at hSw
              go_simp
              try with_reducible rfl
            try simp only [List.getElem_toArray, List.getElem_cons_succ, List.getElem_cons_zero, Act.put, List.setIfInBounds_toArray, List.set_cons_zero, List.set_cons_succ]
            refine wpAnyH_ready (rs := [12]) (by kernel_rfl) (by simp) ?_
            refine AllReadyH.cons rfl (fun Kc hKc => ?_) AllReadyH.nil
            go_simp
            refine hKc.out _ _ (by (try dsimp only); all_goals trivial) (fun hHeld => ?_)
            clear hKc Kc
            try simp only [List.getElem_toArray, List.getElem_cons_succ, List.getElem_cons_zero, Act.put, List.setIfInBounds_toArray, List.set_cons_zero, List.set_cons_succ]
            refine wpAnyH_done (by kernel_rfl) ?_ _
            have M8 := Lib.hid ((Mod.refl (fun i => i = Z + 1 + 1) w5).setCell (p := ⟨Z + 1 + 1, 1, none⟩) (fun _ => rfl) (.slice (some ⟨g, 0, none⟩) (j + 1) cap))
            have B8 := Lib.hid (P3.out.set 1 (.slice (some ⟨g, 0, none⟩) (j + 1) cap))
            have Q2 := Lib.hid (owns_mod P2.out M8.out (fun i e => by have : i = Z + 1 + 1 := e; omega))
            have Q1 := Lib.hid (P1.out.trans M8.out)
            clear hbc7 hbf7 P1 P2 P3 M8 hz1v hz1a hb6
            go_wp2_with fail
            go_roundw
            case rel => exact ⟨j + 1, p + 8, xs ++ [IntKind.i64.wrap v8], .slice (some ⟨g, 0, none⟩) (j + 1) cap, by omega, by go_num, by go_num, by omega, HS.out, B8.out, by rw [← EM.out]; exact Q2.out, Q1.out⟩
            case measure => simp [intOf]; omega
          · go_simp
            rw [EX.out]
            refine (HN8.out _).mono ?_
            rintro e wA ⟨rfl, rfl⟩
            go_wp2_with fail
            refine hKc.out _ _ (by (try dsimp only); all_goals trivial) (fun hHeld => ?_)
            clear hKc Kc
            try simp only [List.getElem_toArray, List.getElem_cons_succ, List.getElem_cons_zero, Act.put, List.setIfInBounds_toArray, List.set_cons_zero, List.set_cons_succ]
            refine wpAnyH_take (i := 8) (v := ?_) rfl (by kernel_rfl) (by kernel_rfl) (by kernel_rfl) (fun _ _ _ h => h) (Or.inl ⟨by rfl, ?_⟩) (by assumption) ?_
            rotate_left
            · intro w hSw
              try dsimp only at hSw
              go_simp
              try with_reducible rfl
            try simp only [List.getElem_toArray, List.getElem_cons_succ, List.getElem_cons_zero, Act.put, List.setIfInBounds_toArray, List.set_cons_zero, List.set_cons_succ]
            refine wpAnyH_ready (rs := [1, 9]) (by kernel_rfl) (by simp) ?_
            refine AllReadyH.cons rfl (fun Kc hKc => ?_) (AllReadyH.cons rfl (fun Kc hKc => ?_) (AllReadyH.nil))
            · go_simp
              refine hKc.out _ _ (by (try dsimp only); all_goals trivial) (fun hHeld => ?_)
              clear hKc Kc
              try simp only [List.getElem_toArray, List.getElem_cons_succ, List.getElem_cons_zero, Act.put, List.setIfInBounds_toArray, List.set_cons_zero, List.set_cons_succ]
              refine wpAnyH_ready (rs := [9]) (by kernel_rfl) (by simp) ?_
              refine AllReadyH.cons rfl (fun Kc hKc => ?_) AllReadyH.nil
              go_simp
              refine hKc.out _ _ (by (try dsimp only); all_goals trivial) (fun hHeld => ?_)
              clear hKc Kc
              try simp only [List.getElem_toArray, List.getElem_cons_succ, List.getElem_cons_zero, Act.put, List.setIfInBounds_toArray, List.set_cons_zero, List.set_cons_succ]
              refine wpAnyH_ready (rs := [10]) (by kernel_rfl) (by simp) ?_
              refine AllReadyH.cons rfl (fun Kc hKc => ?_) AllReadyH.nil
              refine step_append_lies _ rfl (.tmp 48) (.tmp 56) 27 rfl wc.heap.size 3 i3 (.int .i64 0) 1 8 Tryz.underlying27 I0.out Y0.out Y1.out Y2.out rfl (by decide) _ _ _ (by simp [Act.eval, Act.put]) (O1.out.drew.alloc _) ⟨wr.heap.size, 0, none⟩ 1 1 [.int .i64 (IntKind.i64.wrap v8)] (by simp [Act.eval, Act.put]) rfl (one_new wr.drew _ _) (fun u hu => (by simp at hu; subst hu; rfl)) (by decide) hll hlm (by simp [World.size_alloc]; omega) (wr.heap.size + 1) (by simp) ?_
              intro g cap w5 hown' hgrow hgg hgl
              have P1 := Lib.hid (same_append MX.out.drew O1.out.drew hgrow)
              have P2 := Lib.hid hown'
              have P3 := Lib.hid (blk_append K5.out.drew hz5c O1.out.drew hgrow)
              have hbc7 := P3.out.cell
              have hbf7 := P3.out.free
              have hbl7 := P3.out.lt
              clear hown' hgrow hgg
              refine hKc.out _ _ (by (try dsimp only); all_goals trivial) (fun hHeld => ?_)
              clear hKc Kc
              try simp only [List.getElem_toArray, List.getElem_cons_succ, List.getElem_cons_zero, Act.put, List.setIfInBounds_toArray, List.set_cons_zero, List.set_cons_succ]
              refine wpAnyH_take (i := 11) (v := ?_) rfl (by kernel_rfl) (by kernel_rfl) (by kernel_rfl) (fun _ _ _ h => h) (Or.inl ⟨by rfl, ?_⟩) (by assumption) ?_
              rotate_left
              · intro w hSw
                try dsimp only at hSw
                go_simp
                try with_reducible rfl
              try simp only [List.getElem_toArray, List.getElem_cons_succ, List.getElem_cons_zero, Act.put, List.setIfInBounds_toArray, List.set_cons_zero, List.set_cons_succ]
              refine wpAnyH_ready (rs := [12]) (by kernel_rfl) (by simp) ?_
              refine AllReadyH.cons rfl (fun Kc hKc => ?_) AllReadyH.nil
              go_simp
              refine hKc.out _ _ (by (try dsimp only); all_goals trivial) (fun hHeld => ?_)
              clear hKc Kc
              try simp only [List.getElem_toArray, List.getElem_cons_succ, List.getElem_cons_zero, Act.put, List.setIfInBounds_toArray, List.set_cons_zero, List.set_cons_succ]
              refine wpAnyH_done (by kernel_rfl) ?_ _
              have M8 := Lib.hid ((Mod.refl (fun i => i = Z + 1 + 1) w5).setCell (p := ⟨Z + 1 + 1, 1, none⟩) (fun _ => rfl) (.slice (some ⟨g, 0, none⟩) (j + 1) cap))
              have B8 := Lib.hid (P3.out.set 1 (.slice (some ⟨g, 0, none⟩) (j + 1) cap))
              have Q2 := Lib.hid (owns_mod P2.out M8.out (fun i e => by have : i = Z + 1 + 1 := e; omega))
              have Q1 := Lib.hid (P1.out.trans M8.out)
              clear hbc7 hbf7 P1 P2 P3 M8 hz1v hz1a hb6
              go_wp2_with fail
              go_roundw
              case rel => exact ⟨j + 1, p + 8, xs ++ [IntKind.i64.wrap v8], .slice (some ⟨g, 0, none⟩) (j + 1) cap, by omega, by go_num, by go_num, by omega, HS.out, B8.out, by rw [← EM.out]; exact Q2.out, Q1.out⟩
              case measure => simp [intOf]; omega
            · go_simp
              refine hKc.out _ _ (by (try dsimp only); all_goals trivial) (fun hHeld => ?_)
              clear hKc Kc
              try simp only [List.getElem_toArray, List.getElem_cons_succ, List.getElem_cons_zero, Act.put, List.setIfInBounds_toArray, List.set_cons_zero, List.set_cons_succ]
              refine wpAnyH_ready (rs := [1]) (by kernel_rfl) (by simp) ?_
              refine AllReadyH.cons rfl (fun Kc hKc => ?_) AllReadyH.nil
              go_simp
              refine hKc.out _ _ (by (try dsimp only); all_goals trivial) (fun hHeld => ?_)
              clear hKc Kc
              try simp only [List.getElem_toArray, List.getElem_cons_succ, List.getElem_cons_zero, Act.put, List.setIfInBounds_toArray, List.set_cons_zero, List.set_cons_succ]
              refine wpAnyH_ready (rs := [10]) (by kernel_rfl) (by simp) ?_
              refine AllReadyH.cons rfl (fun Kc hKc => ?_) AllReadyH.nil
              refine step_append_lies _ rfl (.tmp 48) (.tmp 56) 27 rfl wc.heap.size 3 i3 (.int .i64 0) 1 8 Tryz.underlying27 I0.out Y0.out Y1.out Y2.out rfl (by decide) _ _ _ (by simp [Act.eval, Act.put]) (O1.out.drew.alloc _) ⟨wr.heap.size, 0, none⟩ 1 1 [.int .i64 (IntKind.i64.wrap v8)] (by simp [Act.eval, Act.put]) rfl (one_new wr.drew _ _) (fun u hu => (by simp at hu; subst hu; rfl)) (by decide) hll hlm (by simp [World.size_alloc]; omega) (wr.heap.size + 1) (by simp) ?_
              intro g cap w5 hown' hgrow hgg hgl
              have P1 := Lib.hid (same_append MX.out.drew O1.out.drew hgrow)
              have P2 := Lib.hid hown'
              have P3 := Lib.hid (blk_append K5.out.drew hz5c O1.out.drew hgrow)
              have hbc7 := P3.out.cell
              have hbf7 := P3.out.free
              have hbl7 := P3.out.lt
              clear hown' hgrow hgg
              refine hKc.out _ _ (by (try dsimp only); all_goals trivial) (fun hHeld => ?_)
              clear hKc Kc
              try simp only [List.getElem_toArray, List.getElem_cons_succ, List.getElem_cons_zero, Act.put, List.setIfInBounds_toArray, List.set_cons_zero, List.set_cons_succ]
              refine wpAnyH_take (i := 11) (v := ?_) rfl (by kernel_rfl) (by kernel_rfl) (by kernel_rfl) (fun _ _ _ h => h) (Or.inl ⟨by rfl, ?_⟩) (by assumption) ?_
              rotate_left
              · intro w hSw
                try dsimp only at hSw
                go_simp
                try with_reducible rfl
              try simp only [List.getElem_toArray, List.getElem_cons_succ, List.getElem_cons_zero, Act.put, List.setIfInBounds_toArray, List.set_cons_zero, List.set_cons_succ]
              refine wpAnyH_ready (rs := [12]) (by kernel_rfl) (by simp) ?_
              refine AllReadyH.cons rfl (fun Kc hKc => ?_) AllReadyH.nil
              go_simp
              refine hKc.out _ _ (by (try dsimp only); all_goals trivial) (fun hHeld => ?_)
              clear hKc Kc
              try simp only [List.getElem_toArray, List.getElem_cons_succ, List.getElem_cons_zero, Act.put, List.setIfInBounds_toArray, List.set_cons_zero, List.set_cons_succ]
              refine wpAnyH_done (by kernel_rfl) ?_ _
              have M8 := Lib.hid ((Mod.refl (fun i => i = Z + 1 + 1) w5).setCell (p := ⟨Z + 1 + 1, 1, none⟩) (fun _ => rfl) (.slice (some ⟨g, 0, none⟩) (j + 1) cap))
              have B8 := Lib.hid (P3.out.set 1 (.slice (some ⟨g, 0, none⟩) (j + 1) cap))
              have Q2 := Lib.hid (owns_mod P2.out M8.out (fun i e => by have : i = Z + 1 + 1 := e; omega))
              have Q1 := Lib.hid (P1.out.trans M8.out)
              clear hbc7 hbf7 P1 P2 P3 M8 hz1v hz1a hb6
              go_wp2_with fail
              go_roundw
              case rel => exact ⟨j + 1, p + 8, xs ++ [IntKind.i64.wrap v8], .slice (some ⟨g, 0, none⟩) (j + 1) cap, by omega, by go_num, by go_num, by omega, HS.out, B8.out, by rw [← EM.out]; exact Q2.out, Q1.out⟩
              case measure => simp [intOf]; omega
      · obtain rfl : j = cn := by omega
        obtain ⟨va, vc, rfl⟩ := owns_slice O1.out
        rw [HG.out] at HR
        dsimp only at HR
        clear hj hlt
        go_wp2_with fail
        clear hb6
        go_loopw [7, 9, 10] (fun t i _ wz => ∃ (q pp : Nat) (ts : List (List UInt8)) (u : Value), q ≤ cd ∧ i = .int .i64 (q : Int) ∧ t = .int .i64 (pp : Int) ∧ pp ≤ l.length ∧ gTxts q (l.drop p) = some (ts, l.drop pp) ∧ Blk wz (Z + 1 + 1) #[.int .i64 ((K : Int) + 1), .slice va j vc, u] ∧ wz.ownsRow wc.heap.size 9 1 u q (ts.map strV) ∧ wz.ownsRow wc.heap.size 3 1 (.slice va j vc) j (xs.map (Value.int .i64)) ∧ Mod (fun i => i = Z + 1 + 1) wc wz) (fun _ i _ _ => cd - (intOf i).toNat)
        case atStart => exact ⟨0, p, [], .slice none 0 0, by omega, rfl, rfl, hp, rfl, K5.out, World.ownsRow_nil _ _ _ _, O1.out, MX.out⟩
        case round =>
          obtain ⟨q, pp, ts, u, hq, rfl, rfl, hpp, hgt, hB, hown, hown1, hM⟩ := hrel
          clear K5 O1 MX
          have K5 := Lib.hid hB
          have O2 := Lib.hid hown
          have O1 := Lib.hid hown1
          have MX := Lib.hid hM
          have hb6 := (C6.out.mod hM (by show ¬ g6 = Z + 1 + 1; omega)).cell
          clear hwr h5r
          have hwr : wc.heap.size ≤ wr.heap.size := hM.size
          have HT := Lib.hid hgt
          have h5r : Z + 1 + 1 < wr.heap.size := hB.lt
          clear hB hown hown1 hM hgt
          by_cases hlt : q < cd
          · have hga := gTxt_at l pp
            by_cases h2 : l.length - pp < 2
            · rw [if_pos h2] at hga
              have hgz : gTxts cd (l.drop p) = none := by
                have h1 : gTxts (q + 1) (l.drop p) = none := by rw [gTxts_snoc q _ ts _ HT.out, hga]
                have := gTxts_stop h1 (cd - (q + 1))
                rwa [show q + 1 + (cd - (q + 1)) = cd by omega] at this
              rw [hgz] at HR
              dsimp only at HR
              have d8 : decide ((l.length : Int) - (pp : Int) < 2) = true := decide_eq_true (by omega)
              have h4 := (C4.out.mod MX.out (by omega)).cell
              clear hga hgz h2
              have RBx := (C2.out.mod MX.out (by omega))
              have rbc := RBx.cell
              have rbf := RBx.free
              have rbl := RBx.lt
              go_wp2_with fail
              have BF := ((RBx.set 0 (.int .i64 0)).set 1 (.slice none 0 0)).set 2 (.slice none 0 0)
              have g0 := BF.at_ (i := 0) (.int .i64 0) rfl
              have g1 := BF.at_ (i := 1) (.slice none 0 0) rfl
              have g2 := BF.at_ (i := 2) (.slice none 0 0) rfl
              have N5 := (((Mod.refl (fun i => i = Z) wr).setCell (p := ⟨Z, 0, none⟩) (fun _ => rfl) (.int .i64 0)).setCell (p := ⟨Z, 1, none⟩) (fun _ => rfl) (.slice none 0 0)).setCell (p := ⟨Z, 2, none⟩) (fun _ => rfl) (.slice none 0 0)
              clear rbc rbf BF
              generalize (((wr.setCell ⟨Z, 0, none⟩ (.int .i64 0)).setCell ⟨Z, 1, none⟩ (.slice none 0 0)).setCell ⟨Z, 2, none⟩ (.slice none 0 0)) = wF at *
              exact bodyPost_ret (v := .tuple #[.agg #[.int .i64 0, .slice none 0 0, .slice none 0 0], .int .i64 0]) (by simp [results, Tryz.results28, go_sem, g0, g1, g2]) rfl (HR.out _ _ ⟨rfl, (J0.out.then_ MX.out (fun i hi (e : i = Z + 1 + 1) => by omega)).then_ N5 (fun i hi (e : i = Z) => by omega)⟩)
            · rw [if_neg h2] at hga
              have d8 : decide ((l.length : Int) - (pp : Int) < 2) = false := decide_eq_false (by omega)
              obtain ⟨hgl, hgl2⟩ := gLen_int (l.drop pp)
              have HN2 := Lib.hid (fun w => refN_any ((l.drop pp).take 2) (by rw [List.length_take]; omega) w)
              rw [hgl] at HN2
              have EX := Lib.hid (cut_bytes l pp 2)
              have hw2 : IntKind.i64.wrap ((pp : Int) + 2) = (pp : Int) + 2 := IntWalk.i64_in _ (by omega)
              have hp1 : (0 : Int) ≤ (pp : Int) := by omega
              have hp2 : (pp : Int) ≤ (pp : Int) + 2 := by omega
              have hp3 : (pp : Int) + 2 ≤ (l.length : Int) := by omega
              have hp4 : ((pp : Int) + 2).toNat = pp + 2 := by omega
              generalize gLen (l.drop pp) = n at *
              have hwn : IntKind.i64.wrap (n : Int) = (n : Int) := IntWalk.i64_in _ (by omega)
              by_cases h5 : 512 < n ∨ l.length - pp - 2 < n
              · rw [if_pos h5] at hga
                have hgz : gTxts cd (l.drop p) = none := by
                  have h1 : gTxts (q + 1) (l.drop p) = none := by rw [gTxts_snoc q _ ts _ HT.out, hga]
                  have := gTxts_stop h1 (cd - (q + 1))
                  rwa [show q + 1 + (cd - (q + 1)) = cd by omega] at this
                rw [hgz] at HR
                dsimp only at HR
                clear hga hgz h2 hgl
                go_wp2_with fail
                rw [EX.out]
                refine (HN2.out _).mono ?_
                rintro e wA ⟨rfl, rfl⟩
                by_cases h512 : 512 < n
                · have d9 : decide ((512 : Int) < (n : Int)) = true := decide_eq_true (by omega)
                  have h4 := (C4.out.mod MX.out (by omega)).cell
                  clear h5 h512
                  have RBx := (C2.out.mod MX.out (by omega))
                  have rbc := RBx.cell
                  have rbf := RBx.free
                  have rbl := RBx.lt
                  go_wp2_with fail
                  have BF := ((RBx.set 0 (.int .i64 0)).set 1 (.slice none 0 0)).set 2 (.slice none 0 0)
                  have g0 := BF.at_ (i := 0) (.int .i64 0) rfl
                  have g1 := BF.at_ (i := 1) (.slice none 0 0) rfl
                  have g2 := BF.at_ (i := 2) (.slice none 0 0) rfl
                  have N5 := (((Mod.refl (fun i => i = Z) wA).setCell (p := ⟨Z, 0, none⟩) (fun _ => rfl) (.int .i64 0)).setCell (p := ⟨Z, 1, none⟩) (fun _ => rfl) (.slice none 0 0)).setCell (p := ⟨Z, 2, none⟩) (fun _ => rfl) (.slice none 0 0)
                  clear rbc rbf BF
                  generalize (((wA.setCell ⟨Z, 0, none⟩ (.int .i64 0)).setCell ⟨Z, 1, none⟩ (.slice none 0 0)).setCell ⟨Z, 2, none⟩ (.slice none 0 0)) = wF at *
                  exact bodyPost_ret (v := .tuple #[.agg #[.int .i64 0, .slice none 0 0, .slice none 0 0], .int .i64 0]) (by simp [results, Tryz.results28, go_sem, g0, g1, g2]) rfl (HR.out _ _ ⟨rfl, (J0.out.then_ MX.out (fun i hi (e : i = Z + 1 + 1) => by omega)).then_ N5 (fun i hi (e : i = Z) => by omega)⟩)
                · have d9 : decide ((512 : Int) < (n : Int)) = false := decide_eq_false (by omega)
                  have d10 : decide ((l.length : Int) - ((pp : Int) + 2) < (n : Int)) = true := decide_eq_true (by omega)
                  have h4 := (C4.out.mod MX.out (by omega)).cell
                  clear h5 h512
                  have RBx := (C2.out.mod MX.out (by omega))
                  have rbc := RBx.cell
                  have rbf := RBx.free
                  have rbl := RBx.lt
                  go_wp2_with fail
                  have BF := ((RBx.set 0 (.int .i64 0)).set 1 (.slice none 0 0)).set 2 (.slice none 0 0)
                  have g0 := BF.at_ (i := 0) (.int .i64 0) rfl
                  have g1 := BF.at_ (i := 1) (.slice none 0 0) rfl
                  have g2 := BF.at_ (i := 2) (.slice none 0 0) rfl
                  have N5 := (((Mod.refl (fun i => i = Z) wA).setCell (p := ⟨Z, 0, none⟩) (fun _ => rfl) (.int .i64 0)).setCell (p := ⟨Z, 1, none⟩) (fun _ => rfl) (.slice none 0 0)).setCell (p := ⟨Z, 2, none⟩) (fun _ => rfl) (.slice none 0 0)
                  clear rbc rbf BF
                  generalize (((wA.setCell ⟨Z, 0, none⟩ (.int .i64 0)).setCell ⟨Z, 1, none⟩ (.slice none 0 0)).setCell ⟨Z, 2, none⟩ (.slice none 0 0)) = wF at *
                  exact bodyPost_ret (v := .tuple #[.agg #[.int .i64 0, .slice none 0 0, .slice none 0 0], .int .i64 0]) (by simp [results, Tryz.results28, go_sem, g0, g1, g2]) rfl (HR.out _ _ ⟨rfl, (J0.out.then_ MX.out (fun i hi (e : i = Z + 1 + 1) => by omega)).then_ N5 (fun i hi (e : i = Z) => by omega)⟩)
              · rw [if_neg h5] at hga
                have d9 : decide ((512 : Int) < (n : Int)) = false := decide_eq_false (by omega)
                have d10 : decide ((l.length : Int) - ((pp : Int) + 2) < (n : Int)) = false := decide_eq_false (by omega)
                have HS := Lib.hid (show gTxts (q + 1) (l.drop p) = some (ts ++ [(l.drop (pp + 2)).take n], l.drop (pp + 2 + n)) by rw [gTxts_snoc q _ ts _ HT.out, hga])
                have EM := Lib.hid (mapS_snoc ts ((l.drop (pp + 2)).take n))
                have EX2 := Lib.hid (cut_bytes l (pp + 2) n)
                have hz2v : wr.cell? ⟨Z + 1 + 1, 2, none⟩ = some u := K5.out.cell 2
                have hll : q + 1 ≤ maxLen := by unfold maxLen; omega
                have hlm : (q + 1) * 16 ≤ 140737488355328 := by omega
                have hp5 : (pp : Int) + 2 ≤ (pp : Int) + 2 + (n : Int) := by omega
                have hp6 : (pp : Int) + 2 + (n : Int) ≤ (l.length : Int) := by omega
                have hp7 : ((pp : Int) + 2 + (n : Int)).toNat = pp + 2 + n := by omega
                have hp8 : (0 : Int) ≤ (pp : Int) + 2 := by omega
                have hwn2 : IntKind.i64.wrap ((pp : Int) + 2 + (n : Int)) = (pp : Int) + 2 + (n : Int) := IntWalk.i64_in _ (by omega)
                clear hga h2 hgl
                go_wp2_with fail
                rw [EX.out]
                refine (HN2.out _).mono ?_
                rintro e wA ⟨rfl, rfl⟩
                clear HN2
                go_wp2_with fail
                have hz2a := (World.cell?_alloc_some wA ⟨Z + 1 + 1, 2, none⟩ (Obj.cells #[.string ((⟨l.toArray⟩ : ByteArray).extract (pp + 2) (pp + 2 + n))] 9) (by rw [hz2v]; rfl)).trans hz2v
                refine wp_region_held_drew (S := fun _ => True) (by kernel_rfl) (by (try dsimp only); all_goals trivial) (fun hHeld => ?_)
                refine wpAnyH_take (i := 0) (v := ?_) rfl (by kernel_rfl) (by kernel_rfl) (by kernel_rfl) (fun _ _ _ h => h) (Or.inl ⟨by rfl, ?_⟩) (by assumption) ?_
                rotate_left
                · intro w hSw
                  try dsimp only at hSw
                  go_simp
                  try with_reducible rfl
                try simp only [List.getElem_toArray, List.getElem_cons_succ, List.getElem_cons_zero, Act.put, List.setIfInBounds_toArray, List.set_cons_zero, List.set_cons_succ]
                refine wpAnyH_take (i := 2) (v := ?_) rfl (by kernel_rfl) (by kernel_rfl) (by kernel_rfl) (fun _ _ _ h => h) (Or.inl ⟨by rfl, ?_⟩) (by assumption) ?_
                rotate_left
                · intro w hSw
                  try dsimp only at hSw
                  go_simp
                  try with_reducible rfl
                try simp only [List.getElem_toArray, List.getElem_cons_succ, List.getElem_cons_zero, Act.put, List.setIfInBounds_toArray, List.set_cons_zero, List.set_cons_succ]
                refine wpAnyH_take (i := 3) (v := ?_) rfl (by kernel_rfl) (by kernel_rfl) (by kernel_rfl) (fun _ _ _ h => h) (Or.inl ⟨by rfl, ?_⟩) (by assumption) ?_
                rotate_left
                · intro w hSw
                  try dsimp only at hSw
                  go_simp
                  try with_reducible rfl
                try simp only [List.getElem_toArray, List.getElem_cons_succ, List.getElem_cons_zero, Act.put, List.setIfInBounds_toArray, List.set_cons_zero, List.set_cons_succ]
                refine wpAnyH_take (i := 4) (v := ?_) rfl (by kernel_rfl) (by kernel_rfl) (by kernel_rfl) (fun _ _ _ h => h) (Or.inl ⟨by rfl, ?_⟩) (by assumption) ?_
                rotate_left
                · intro w hSw
                  try dsimp only at hSw
                  go_simp
                  try with_reducible rfl
                try simp only [List.getElem_toArray, List.getElem_cons_succ, List.getElem_cons_zero, Act.put, List.setIfInBounds_toArray, List.set_cons_zero, List.set_cons_succ]
                refine wpAnyH_take (i := 5) (v := ?_) rfl (by kernel_rfl) (by kernel_rfl) (by kernel_rfl) (fun _ _ _ h => h) (Or.inl ⟨by rfl, ?_⟩) (by assumption) ?_
                rotate_left
                · intro w hSw
                  try dsimp only at hSw
                  go_simp
                  try with_reducible rfl
                try simp only [List.getElem_toArray, List.getElem_cons_succ, List.getElem_cons_zero, Act.put, List.setIfInBounds_toArray, List.set_cons_zero, List.set_cons_succ]
                refine wpAnyH_take (i := 6) (v := ?_) rfl (by kernel_rfl) (by kernel_rfl) (by kernel_rfl) (fun _ _ _ h => h) (Or.inl ⟨by rfl, ?_⟩) (by assumption) ?_
                rotate_left
                · intro w hSw
                  try dsimp only at hSw
                  go_simp
                  try with_reducible rfl
                try simp only [List.getElem_toArray, List.getElem_cons_succ, List.getElem_cons_zero, Act.put, List.setIfInBounds_toArray, List.set_cons_zero, List.set_cons_succ]
                refine wpAnyH_take (i := 7) (v := ?_) rfl (by kernel_rfl) (by kernel_rfl) (by kernel_rfl) (fun _ _ _ h => h) (Or.inl ⟨by rfl, ?_⟩) (by assumption) ?_
                rotate_left
                · intro w hSw
                  try dsimp only at hSw
                  go_simp
                  try with_reducible rfl
                try simp only [List.getElem_toArray, List.getElem_cons_succ, List.getElem_cons_zero, Act.put, List.setIfInBounds_toArray, List.set_cons_zero, List.set_cons_succ]
                refine wpAnyH_ready (rs := [1, 8]) (by kernel_rfl) (by simp) ?_
                refine AllReadyH.cons rfl (fun Kc hKc => ?_) (AllReadyH.cons rfl (fun Kc hKc => ?_) (AllReadyH.nil))
                · go_simp
                  refine hKc.out _ _ (by (try dsimp only); all_goals trivial) (fun hHeld => ?_)
                  clear hKc Kc
                  try simp only [List.getElem_toArray, List.getElem_cons_succ, List.getElem_cons_zero, Act.put, List.setIfInBounds_toArray, List.set_cons_zero, List.set_cons_succ]
                  refine wpAnyH_ready (rs := [8]) (by kernel_rfl) (by simp) ?_
                  refine AllReadyH.cons rfl (fun Kc hKc => ?_) AllReadyH.nil
                  go_simp
                  refine hKc.out _ _ (by (try dsimp only); all_goals trivial) (fun hHeld => ?_)
                  clear hKc Kc
                  try simp only [List.getElem_toArray, List.getElem_cons_succ, List.getElem_cons_zero, Act.put, List.setIfInBounds_toArray, List.set_cons_zero, List.set_cons_succ]
                  refine wpAnyH_ready (rs := [9]) (by kernel_rfl) (by simp) ?_
                  refine AllReadyH.cons rfl (fun Kc hKc => ?_) AllReadyH.nil
                  refine step_append_lies _ rfl (.tmp 94) (.tmp 101) 29 rfl wc.heap.size 9 i9 (.string ⟨#[]⟩) 1 16 Tryz.underlying29 I9.out X0.out X1.out X2.out rfl (by decide) _ _ _ (by simp [Act.eval, Act.put]) (O2.out.drew.alloc _) ⟨wA.heap.size, 0, none⟩ 1 1 [.string ((⟨l.toArray⟩ : ByteArray).extract (pp + 2) (pp + 2 + n))] (by simp [Act.eval, Act.put]) rfl (one_new wA.drew _ _) (fun u hu => (by simp at hu; subst hu; rfl)) (by decide) hll hlm (by simp [World.size_alloc]; omega) (wA.heap.size + 1) (by simp) ?_
                  intro g cap w5 hown' hgrow hgg hgl
                  rw [EX2.out] at hown'
                  have P1 := Lib.hid (same_append MX.out.drew O2.out.drew hgrow)
                  have P2 := Lib.hid hown'
                  have P3 := Lib.hid (blk_append K5.out.drew hz5c O2.out.drew hgrow)
                  have P4 := Lib.hid ((O1.out.drew.alloc _).kept hgrow (own_two O1.out.drew O2.out.drew).2)
                  have hbc7 := P3.out.cell
                  have hbf7 := P3.out.free
                  have hbl7 := P3.out.lt
                  clear hown' hgrow hgg
                  refine hKc.out _ _ (by (try dsimp only); all_goals trivial) (fun hHeld => ?_)
                  clear hKc Kc
                  try simp only [List.getElem_toArray, List.getElem_cons_succ, List.getElem_cons_zero, Act.put, List.setIfInBounds_toArray, List.set_cons_zero, List.set_cons_succ]
                  refine wpAnyH_take (i := 10) (v := ?_) rfl (by kernel_rfl) (by kernel_rfl) (by kernel_rfl) (fun _ _ _ h => h) (Or.inl ⟨by rfl, ?_⟩) (by assumption) ?_
                  rotate_left
                  · intro w hSw
                    try dsimp only at hSw
                    go_simp
                    try with_reducible rfl
                  try simp only [List.getElem_toArray, List.getElem_cons_succ, List.getElem_cons_zero, Act.put, List.setIfInBounds_toArray, List.set_cons_zero, List.set_cons_succ]
                  refine wpAnyH_ready (rs := [11]) (by kernel_rfl) (by simp) ?_
                  refine AllReadyH.cons rfl (fun Kc hKc => ?_) AllReadyH.nil
                  go_simp
                  refine hKc.out _ _ (by (try dsimp only); all_goals trivial) (fun hHeld => ?_)
                  clear hKc Kc
                  try simp only [List.getElem_toArray, List.getElem_cons_succ, List.getElem_cons_zero, Act.put, List.setIfInBounds_toArray, List.set_cons_zero, List.set_cons_succ]
                  refine wpAnyH_done (by kernel_rfl) ?_ _
                  have M8 := Lib.hid ((Mod.refl (fun i => i = Z + 1 + 1) w5).setCell (p := ⟨Z + 1 + 1, 2, none⟩) (fun _ => rfl) (.slice (some ⟨g, 0, none⟩) (q + 1) cap))
                  have B8 := Lib.hid (P3.out.set 2 (.slice (some ⟨g, 0, none⟩) (q + 1) cap))
                  have Q2 := Lib.hid (owns_mod P2.out M8.out (fun i e => by have : i = Z + 1 + 1 := e; omega))
                  have Q4 := Lib.hid (owns_mod P4.out M8.out (fun i e => by have : i = Z + 1 + 1 := e; omega))
                  have Q1 := Lib.hid (P1.out.trans M8.out)
                  clear hbc7 hbf7 P1 P2 P3 P4 M8 hz2v hz2a hb6
                  go_wp2_with fail
                  go_roundw
                  case rel => exact ⟨q + 1, pp + 2 + n, ts ++ [(l.drop (pp + 2)).take n], .slice (some ⟨g, 0, none⟩) (q + 1) cap, by omega, by go_num, by go_num, by omega, HS.out, B8.out, by rw [← EM.out]; exact Q2.out, Q4.out, Q1.out⟩
                  case measure => simp [intOf]; omega
                · go_simp
                  refine hKc.out _ _ (by (try dsimp only); all_goals trivial) (fun hHeld => ?_)
                  clear hKc Kc
                  try simp only [List.getElem_toArray, List.getElem_cons_succ, List.getElem_cons_zero, Act.put, List.setIfInBounds_toArray, List.set_cons_zero, List.set_cons_succ]
                  refine wpAnyH_ready (rs := [1]) (by kernel_rfl) (by simp) ?_
                  refine AllReadyH.cons rfl (fun Kc hKc => ?_) AllReadyH.nil
                  go_simp
                  refine hKc.out _ _ (by (try dsimp only); all_goals trivial) (fun hHeld => ?_)
                  clear hKc Kc
                  try simp only [List.getElem_toArray, List.getElem_cons_succ, List.getElem_cons_zero, Act.put, List.setIfInBounds_toArray, List.set_cons_zero, List.set_cons_succ]
                  refine wpAnyH_ready (rs := [9]) (by kernel_rfl) (by simp) ?_
                  refine AllReadyH.cons rfl (fun Kc hKc => ?_) AllReadyH.nil
                  refine step_append_lies _ rfl (.tmp 94) (.tmp 101) 29 rfl wc.heap.size 9 i9 (.string ⟨#[]⟩) 1 16 Tryz.underlying29 I9.out X0.out X1.out X2.out rfl (by decide) _ _ _ (by simp [Act.eval, Act.put]) (O2.out.drew.alloc _) ⟨wA.heap.size, 0, none⟩ 1 1 [.string ((⟨l.toArray⟩ : ByteArray).extract (pp + 2) (pp + 2 + n))] (by simp [Act.eval, Act.put]) rfl (one_new wA.drew _ _) (fun u hu => (by simp at hu; subst hu; rfl)) (by decide) hll hlm (by simp [World.size_alloc]; omega) (wA.heap.size + 1) (by simp) ?_
                  intro g cap w5 hown' hgrow hgg hgl
                  rw [EX2.out] at hown'
                  have P1 := Lib.hid (same_append MX.out.drew O2.out.drew hgrow)
                  have P2 := Lib.hid hown'
                  have P3 := Lib.hid (blk_append K5.out.drew hz5c O2.out.drew hgrow)
                  have P4 := Lib.hid ((O1.out.drew.alloc _).kept hgrow (own_two O1.out.drew O2.out.drew).2)
                  have hbc7 := P3.out.cell
                  have hbf7 := P3.out.free
                  have hbl7 := P3.out.lt
                  clear hown' hgrow hgg
                  refine hKc.out _ _ (by (try dsimp only); all_goals trivial) (fun hHeld => ?_)
                  clear hKc Kc
                  try simp only [List.getElem_toArray, List.getElem_cons_succ, List.getElem_cons_zero, Act.put, List.setIfInBounds_toArray, List.set_cons_zero, List.set_cons_succ]
                  refine wpAnyH_take (i := 10) (v := ?_) rfl (by kernel_rfl) (by kernel_rfl) (by kernel_rfl) (fun _ _ _ h => h) (Or.inl ⟨by rfl, ?_⟩) (by assumption) ?_
                  rotate_left
                  · intro w hSw
                    try dsimp only at hSw
                    go_simp
                    try with_reducible rfl
                  try simp only [List.getElem_toArray, List.getElem_cons_succ, List.getElem_cons_zero, Act.put, List.setIfInBounds_toArray, List.set_cons_zero, List.set_cons_succ]
                  refine wpAnyH_ready (rs := [11]) (by kernel_rfl) (by simp) ?_
                  refine AllReadyH.cons rfl (fun Kc hKc => ?_) AllReadyH.nil
                  go_simp
                  refine hKc.out _ _ (by (try dsimp only); all_goals trivial) (fun hHeld => ?_)
                  clear hKc Kc
                  try simp only [List.getElem_toArray, List.getElem_cons_succ, List.getElem_cons_zero, Act.put, List.setIfInBounds_toArray, List.set_cons_zero, List.set_cons_succ]
                  refine wpAnyH_done (by kernel_rfl) ?_ _
                  have M8 := Lib.hid ((Mod.refl (fun i => i = Z + 1 + 1) w5).setCell (p := ⟨Z + 1 + 1, 2, none⟩) (fun _ => rfl) (.slice (some ⟨g, 0, none⟩) (q + 1) cap))
                  have B8 := Lib.hid (P3.out.set 2 (.slice (some ⟨g, 0, none⟩) (q + 1) cap))
                  have Q2 := Lib.hid (owns_mod P2.out M8.out (fun i e => by have : i = Z + 1 + 1 := e; omega))
                  have Q4 := Lib.hid (owns_mod P4.out M8.out (fun i e => by have : i = Z + 1 + 1 := e; omega))
                  have Q1 := Lib.hid (P1.out.trans M8.out)
                  clear hbc7 hbf7 P1 P2 P3 P4 M8 hz2v hz2a hb6
                  go_wp2_with fail
                  go_roundw
                  case rel => exact ⟨q + 1, pp + 2 + n, ts ++ [(l.drop (pp + 2)).take n], .slice (some ⟨g, 0, none⟩) (q + 1) cap, by omega, by go_num, by go_num, by omega, HS.out, B8.out, by rw [← EM.out]; exact Q2.out, Q4.out, Q1.out⟩
                  case measure => simp [intOf]; omega
          · obtain rfl : q = cd := by omega
            obtain ⟨ua, uc, rfl⟩ := owns_slice O2.out
            rw [HT.out] at HR
            dsimp only at HR
            have hx := (gNums_form j r0 xs _ HG.out).1
            have hts := (gTxts_form q _ ts _ HT.out).1
            have hpl : (l.length : Int) - ((l.drop pp).length : Int) = (pp : Int) := by rw [List.length_drop]; omega
            rw [hx, hts, hpl] at HR
            have h5c := K5.out.cell
            clear hx hts hpl hlt
            have RBx := (C2.out.mod MX.out (by omega))
            have rbc := RBx.cell
            have rbf := RBx.free
            have rbl := RBx.lt
            go_wp2_with fail
            have BF := ((RBx.set 0 (.int .i64 ((K : Int) + 1))).set 1 (.slice va j vc)).set 2 (.slice ua q uc)
            have g0 := BF.at_ (i := 0) (.int .i64 ((K : Int) + 1)) rfl
            have g1 := BF.at_ (i := 1) (.slice va j vc) rfl
            have g2 := BF.at_ (i := 2) (.slice ua q uc) rfl
            have N5 := (((Mod.refl (fun i => i = Z) wr).setCell (p := ⟨Z, 0, none⟩) (fun _ => rfl) (.int .i64 ((K : Int) + 1))).setCell (p := ⟨Z, 1, none⟩) (fun _ => rfl) (.slice va j vc)).setCell (p := ⟨Z, 2, none⟩) (fun _ => rfl) (.slice ua q uc)
            clear rbc rbf BF
            generalize (((wr.setCell ⟨Z, 0, none⟩ (.int .i64 ((K : Int) + 1))).setCell ⟨Z, 1, none⟩ (.slice va j vc)).setCell ⟨Z, 2, none⟩ (.slice ua q uc)) = wF at *
            exact bodyPost_ret (v := .tuple #[.agg #[.int .i64 ((K : Int) + 1), .slice va j vc, .slice ua q uc], .int .i64 (pp : Int)]) (by simp [results, Tryz.results28, go_sem, g0, g1, g2]) rfl (HR.out _ _ ⟨⟨va, vc, ua, uc, rfl, rowT_of_owns (owns_mod O1.out N5 (fun i e => by have : i = Z := e; omega)), rowT_of_owns (owns_mod O2.out N5 (fun i e => by have : i = Z := e; omega))⟩, (J0.out.then_ MX.out (fun i hi (e : i = Z + 1 + 1) => by omega)).then_ N5 (fun i hi (e : i = Z) => by omega)⟩)
theorem refread_any (l : List UInt8) (hl : l.length ≤ 100000) (w : World) : Calls Tryz.prog 28 #[.string ⟨l.toArray⟩] w (ReadA l w) := by
  cases l with
  | nil => exact refread_none [] w (.inl rfl)
  | cons b r =>
    by_cases hb : b.toNat = 0 ∨ 15 < b.toNat
    · exact refread_none _ w (.inr ⟨b, r, rfl, hb⟩)
    · exact refread_some b r hb hl w
end Go.Proofs.YtdengmlidckkeaaGreatDoor
namespace Go.Proofs.YtdengmlidckkeaaGreatDoor
open Go Go.RowKit
theorem gNum_suf {l : List UInt8} {x : Int} {q : List UInt8} (h : gNum l = some (x, q)) : ∃ p, l = p ++ q := by
  unfold gNum at h
  split at h
  · cases h
  · cases h; exact ⟨l.take 8, (List.take_append_drop 8 l).symm⟩
theorem gTxt_suf {l x q : List UInt8} (h : gTxt l = some (x, q)) : ∃ p, l = p ++ q := by
  unfold gTxt at h
  split at h
  · cases h
  · split at h
    · cases h
    · cases h
      exact ⟨l.take 2 ++ (l.drop 2).take (gLen l), by rw [List.append_assoc, List.take_append_drop, List.take_append_drop]⟩
theorem gNums_suf : ∀ (n : Nat) (l : List UInt8) (xs : List Int) (q : List UInt8), gNums n l = some (xs, q) → ∃ p, l = p ++ q
  | 0, l, xs, q, h => by cases h; exact ⟨[], rfl⟩
  | n + 1, l, xs, q, h => by
    unfold gNums at h
    cases hg : gNum l with
    | none => rw [hg] at h; cases h
    | some p =>
      obtain ⟨y, r⟩ := p
      rw [hg] at h
      dsimp only at h
      cases hg2 : gNums n r with
      | none => rw [hg2] at h; cases h
      | some p =>
        obtain ⟨ys, r2⟩ := p
        rw [hg2] at h
        cases h
        obtain ⟨p1, e1⟩ := gNum_suf hg
        obtain ⟨p2, e2⟩ := gNums_suf n r ys q hg2
        exact ⟨p1 ++ p2, by rw [e1, e2, List.append_assoc]⟩
theorem gTxts_suf : ∀ (n : Nat) (l : List UInt8) (xs : List (List UInt8)) (q : List UInt8), gTxts n l = some (xs, q) → ∃ p, l = p ++ q
  | 0, l, xs, q, h => by cases h; exact ⟨[], rfl⟩
  | n + 1, l, xs, q, h => by
    unfold gTxts at h
    cases hg : gTxt l with
    | none => rw [hg] at h; cases h
    | some p =>
      obtain ⟨y, r⟩ := p
      rw [hg] at h
      dsimp only at h
      cases hg2 : gTxts n r with
      | none => rw [hg2] at h; cases h
      | some p =>
        obtain ⟨ys, r2⟩ := p
        rw [hg2] at h
        cases h
        obtain ⟨p1, e1⟩ := gTxt_suf hg
        obtain ⟨p2, e2⟩ := gTxts_suf n r ys q hg2
        exact ⟨p1 ++ p2, by rw [e1, e2, List.append_assoc]⟩
/-- Behind an order lies the rest of the bytes, fewer than there were. -/
theorem gOrd_suf {l : List UInt8} {o : OW} {q : List UInt8} (h : gOrd l = some (o, q)) : ∃ k, 0 < k ∧ k ≤ l.length ∧ q = l.drop k ∧ (l.length : Int) - q.length = (k : Int) := by
  cases l with
  | nil => cases h
  | cons b l =>
    rw [gOrd_cons] at h
    split at h
    · cases h
    · cases hg : gNums (nN (b.toNat - 1)) l with
      | none => rw [hg] at h; cases h
      | some p =>
        obtain ⟨ns, r⟩ := p
        rw [hg] at h
        dsimp only at h
        cases hg2 : gTxts (nD (b.toNat - 1)) r with
        | none => rw [hg2] at h; cases h
        | some p =>
          obtain ⟨ts, r2⟩ := p
          rw [hg2] at h
          cases h
          obtain ⟨p1, e1⟩ := gNums_suf _ _ _ _ hg
          obtain ⟨p2, e2⟩ := gTxts_suf _ _ _ _ hg2
          refine ⟨1 + (p1.length + p2.length), by omega, ?_, ?_, ?_⟩
          · rw [e1, e2]; simp; omega
          · rw [e1, e2]
            have : b :: (p1 ++ (p2 ++ q)) = ([b] ++ (p1 ++ p2)) ++ q := by simp
            rw [this, List.drop_left' (by simp; omega)]
          · rw [e1, e2]; simp; omega
theorem gOrds_snoc : ∀ (n : Nat) (l : List UInt8) (xs : List OW) (r : List UInt8), gOrds n l = some (xs, r) → gOrds (n + 1) l = match gOrd r with
    | none => none
    | some (x, q) => some (xs ++ [x], q)
  | 0, l, xs, r, h => by
    cases h
    unfold gOrds gOrds
    cases gOrd l with
    | none => rfl
    | some p => rfl
  | n + 1, l, xs, r, h => by
    unfold gOrds at h
    unfold gOrds
    cases hg : gOrd l with
    | none => rw [hg] at h; cases h
    | some p =>
      obtain ⟨y, q⟩ := p
      rw [hg] at h
      dsimp only at h ⊢
      cases hg2 : gOrds n q with
      | none => rw [hg2] at h; cases h
      | some p =>
        obtain ⟨ys, q2⟩ := p
        rw [hg2] at h
        cases h
        rw [gOrds_snoc n q ys r hg2]
        cases gOrd r with
        | none => rfl
        | some p => rfl
theorem gOrds_stop {n : Nat} {l : List UInt8} (h : gOrds n l = none) : ∀ d, gOrds (n + d) l = none
  | 0 => h
  | d + 1 => by
    have ih := gOrds_stop h d
    rw [← Nat.add_assoc]
    generalize n + d = m at *
    clear h
    induction m generalizing l with
    | zero => cases ih
    | succ m im =>
      unfold gOrds at ih ⊢
      cases hg : gOrd l with
      | none => rfl
      | some p =>
        obtain ⟨y, q⟩ := p
        rw [hg] at ih
        dsimp only at ih ⊢
        cases hg2 : gOrds m q with
        | none => rw [im hg2]
        | some p => rw [hg2] at ih; cases ih
theorem info32x : (Tryz.prog.info? 32).map (fun i => (i.zero, i.size, i.bytes)) = some (some (.agg #[.int .i64 0, .slice none 0 0, .slice none 0 0]), 3, 56) := by kernel_rfl
theorem owns_kind3 {w : World} {B : Nat} {e : TypeId} {v : Value} {n : Nat} {xs : List Value} (h : w.ownsRow B e 3 v n xs) : ∀ g, v.ownBlock = some g → ∃ c fz, w.heap[g]? = some (.cells c e fz) := by
  obtain ⟨hl, ⟨rfl, rfl⟩ | ⟨g, cap, cur, rfl, hb, hh, r⟩⟩ := h
  · intro g hg; cases hg
  · intro g' hg
    cases hg
    exact ⟨_, _, hh⟩
theorem RowT.grown {w w' : World} {a : Option Addr} {vs : List Value} {T : TypeId} {o : Obj} {v : Value} (h : RowT w a vs T) (hg : (w.alloc o).grownBy w' v.ownBlock) (hk : ∀ g, v.ownBlock = some g → ∃ c fz, w.heap[g]? = some (.cells c 32 fz)) (hT : T ≠ 32) : RowT w' a vs T := fun hp => by
  obtain ⟨b, o1, h1, h2, ⟨c, fz, h3⟩, h4⟩ := h hp
  have hne : some b ≠ v.ownBlock := fun e => by
    obtain ⟨c', fz', e'⟩ := hk b e.symm
    rw [h3] at e'
    cases e'
    exact hT rfl
  have ha : (w.alloc o).heap[b]? = w.heap[b]? := Below.heap_alloc w o b h2
  have hb : w'.heap[b]? = w.heap[b]? := (hg.block b (by simp only [World.size_alloc]; omega) hne).trans ha
  exact ⟨b, o1, h1, Nat.lt_of_lt_of_le (by simp only [World.size_alloc]; omega : b < (w.alloc o).heap.size) hg.size, ⟨c, fz, hb.trans h3⟩, fun i v hi => (World.cell?_of_block hb).trans (h4 i v hi)⟩
theorem three_new (w : World) (x y z : Value) (t : TypeId) : ∀ j u, [x, y, z][j]? = some u → (w.alloc (.cells #[x, y, z] t)).cell? (Addr.add ⟨w.heap.size, 0, none⟩ j) = some u := by
  intro j u h
  match j, h with
  | 0, h => simp at h; subst h; simp [Addr.add]
  | 1, h => simp at h; subst h; simp [Addr.add]
  | 2, h => simp at h; subst h; simp [Addr.add]
/-- An order's cells, at a place of a row. -/
def CellsO (w : World) (vs : List Value) (i : Nat) (x : OW) : Prop := ∃ a1 c1 a2 c2, vs[3 * i]? = some (.int .i64 ((x.k : Int) + 1)) ∧ vs[3 * i + 1]? = some (.slice a1 x.ns.length c1) ∧ vs[3 * i + 2]? = some (.slice a2 x.ts.length c2) ∧ RowT w a1 (x.ns.map (Value.int .i64)) 3 ∧ RowT w a2 (x.ts.map strV) 9
/-- Orders in memory, in the document's form. -/
def OrdsAt (w : World) (a : Option Addr) (L : List OW) : Prop := 0 < L.length → ∃ b o, a = some ⟨b, o, none⟩ ∧ b < w.heap.size ∧ ∀ i x, L[i]? = some x → ∃ a1 c1 a2 c2, w.cell? ⟨b, o + 3 * i, none⟩ = some (.int .i64 ((x.k : Int) + 1)) ∧ w.cell? ⟨b, o + 3 * i + 1, none⟩ = some (.slice a1 x.ns.length c1) ∧ w.cell? ⟨b, o + 3 * i + 2, none⟩ = some (.slice a2 x.ts.length c2) ∧ RowT w a1 (x.ns.map (Value.int .i64)) 3 ∧ RowT w a2 (x.ts.map strV) 9
theorem CellsO.next {w w' : World} {vs : List Value} {i : Nat} {x : OW} (news : List Value) (h : CellsO w vs i x) (k1 : ∀ a us, RowT w a us 3 → RowT w' a us 3) (k2 : ∀ a us, RowT w a us 9 → RowT w' a us 9) : CellsO w' (vs ++ news) i x := by
  obtain ⟨a1, c1, a2, c2, e0, e1, e2, r1, r2⟩ := h
  have ap : ∀ j u, vs[j]? = some u → (vs ++ news)[j]? = some u := fun j u hj => by
    rw [List.getElem?_append_left (List.getElem?_eq_some_iff.1 hj).1]; exact hj
  exact ⟨a1, c1, a2, c2, ap _ _ e0, ap _ _ e1, ap _ _ e2, k1 _ _ r1, k2 _ _ r2⟩
/-- What the document's Parse of orders hands back. -/
def ParseA (l : List UInt8) (w : World) (e : Ending) (w' : World) : Prop := (match parseK l with
  | none => ∃ v, e = .returned (.tuple #[v, .bool false])
  | some L => ∃ a c, e = .returned (.tuple #[.slice a L.length c, .bool true]) ∧ OrdsAt w' a L) ∧ Same w w'
theorem cells_step {w w' : World} {L : List OW} {vs news : List Value} {x : OW} {j : Nat} (hL : L.length = j) (hv : vs.length = j * 3) (h : ∀ i y, L[i]? = some y → CellsO w vs i y) (k1 : ∀ a us, RowT w a us 3 → RowT w' a us 3) (k2 : ∀ a us, RowT w a us 9 → RowT w' a us 9) (hx : CellsO w' news 0 x) :
    ∀ i y, (L ++ [x])[i]? = some y → CellsO w' (vs ++ news) i y := by
  intro i y hi
  by_cases hlt : i < L.length
  · rw [List.getElem?_append_left hlt] at hi
    exact (h i y hi).next news k1 k2
  · rw [List.getElem?_append_right (by omega)] at hi
    have hi0 : i - L.length = 0 := by
      rcases Nat.eq_zero_or_pos (i - L.length) with e | e
      · exact e
      · rw [List.getElem?_eq_none (by simp; omega)] at hi; cases hi
    rw [hi0] at hi
    cases hi
    obtain rfl : i = j := by omega
    obtain ⟨a1, c1, a2, c2, e0, e1, e2, r1, r2⟩ := hx
    refine ⟨a1, c1, a2, c2, ?_, ?_, ?_, r1, r2⟩
    · rw [List.getElem?_append_right (by omega), show 3 * i - vs.length = 0 by omega]; exact e0
    · rw [List.getElem?_append_right (by omega), show 3 * i + 1 - vs.length = 1 by omega]; exact e1
    · rw [List.getElem?_append_right (by omega), show 3 * i + 2 - vs.length = 2 by omega]; exact e2
theorem ords_of_owns {w : World} {B n : Nat} {a : Option Addr} {c : Nat} {vs : List Value} {L : List OW} (h : w.ownsRow B 32 3 (.slice a n c) n vs) (hL : L.length = n) (hc : ∀ i y, L[i]? = some y → CellsO w vs i y) : OrdsAt w a L := by
  intro hp
  obtain ⟨g, cap, hv, hb, hcc, hrow⟩ := RowV.of_owns h (by omega)
  injection hv with ha _ _
  subst ha
  refine ⟨g, 0, rfl, hrow.lt, fun i x hi => ?_⟩
  have hlt : i < n := by rw [← hL]; exact (List.getElem?_eq_some_iff.1 hi).1
  obtain ⟨a1, c1, a2, c2, e0, e1, e2, r1, r2⟩ := hc i x hi
  have cell : ∀ j u, vs[j]? = some u → w.cell? ⟨g, j, none⟩ = some u := fun j u hj => by
    have hjl : j < vs.length := (List.getElem?_eq_some_iff.1 hj).1
    refine (hrow.cell j (by have := h.1; omega)).trans ?_
    rw [List.getD_eq_getElem?_getD, hj]; rfl
  refine ⟨a1, c1, a2, c2, ?_, ?_, ?_, r1, r2⟩
  · rw [Nat.zero_add]; exact cell _ _ e0
  · rw [Nat.zero_add]; exact cell _ _ e1
  · rw [Nat.zero_add]; exact cell _ _ e2
theorem parseK_t {l t : List UInt8} (h : openL l = some t) (h2 : ¬ t.length < 2) : parseK l = if 400 < gLen t then none else match gOrds (gLen t) (t.drop 2) with
    | some (L, []) => some L
    | _ => none := by
  unfold parseK
  rw [h]
  dsimp only
  rw [if_neg h2]
  rfl
set_option maxRecDepth 10000 in
set_option maxHeartbeats 4000000 in
theorem refparse38 (l : List UInt8) (hl : l.length ≤ 90000) (w : World) : Calls Tryz.prog 30 #[.string ⟨l.toArray⟩] w (ParseA l w) := by
  refine opq fun R HR => ?_
  have HO := Lib.hid (refOpen_any l (by omega) w)
  cases ho : openL l with
  | none =>
    have hpk : parseK l = none := by unfold parseK; rw [ho]
    unfold ParseA at HR
    rw [hpk] at HR
    rw [ho] at HO
    dsimp only at HO HR
    clear ho hpk
    go_enter Tryz.func30, Tryz.ntmps30
    go_wp2_with fail
    refine HO.out.mono ?_
    rintro e w1 ⟨rfl, M1⟩
    have K1 := Lib.hid M1
    clear M1 HO
    go_wp2
    exact HR.out _ _ ⟨⟨_, rfl⟩, K1.out⟩
  | some t =>
    rw [ho] at HO
    dsimp only at HO
    have htl : t.length ≤ 90000 := by
      unfold openL at ho
      split at ho
      · cases ho
      · split at ho
        · cases ho; rw [List.length_take]; omega
        · cases ho
    have hbs := bytes_size t
    by_cases h2 : t.length < 2
    · have hpk : parseK l = none := by unfold parseK; rw [ho]; dsimp only; rw [if_pos h2]
      unfold ParseA at HR
      rw [hpk] at HR
      dsimp only at HR
      have hq : decide ((t.length : Int) < 2) = true := decide_eq_true (by omega)
      clear ho hpk h2
      go_enter Tryz.func30, Tryz.ntmps30
      go_wp2_with fail
      refine HO.out.mono ?_
      rintro e w1 ⟨rfl, M1⟩
      have K1 := Lib.hid M1
      clear M1 HO
      go_wp2
      exact HR.out _ _ ⟨⟨_, rfl⟩, K1.out⟩
    · have hq : decide ((t.length : Int) < 2) = false := decide_eq_false (by omega)
      have hpk := parseK_t ho h2
      obtain ⟨hgl, hgl2⟩ := gLen_int t
      have HN2 := Lib.hid (fun w => refN_any (t.take 2) (by rw [List.length_take]; omega) w)
      rw [hgl] at HN2
      have EX := Lib.hid (take_bytes ⟨t.toArray⟩ 2)
      have ED0 := drop_bytes ⟨t.toArray⟩ 2
      rw [bytes_size] at ED0
      have ED := Lib.hid ED0
      have hdl : (t.drop 2).length ≤ 90000 := by rw [List.length_drop]; omega
      have h2i : (2 : Int) ≤ (t.length : Int) := by omega
      generalize gLen t = n at *
      have hwn : IntKind.i64.wrap (n : Int) = (n : Int) := IntWalk.i64_in _ (by omega)
      clear ho hgl ED0 h2
      go_enter Tryz.func30, Tryz.ntmps30
      go_wp2_with fail
      refine HO.out.mono ?_
      rintro e w1 ⟨rfl, M1⟩
      have K1 := Lib.hid M1
      clear M1 HO
      go_wp2_with fail
      rw [EX.out]
      refine (HN2.out _).mono ?_
      rintro e wA ⟨rfl, hw⟩
      subst hw
      clear HN2
      go_wp2_with fail
      rw [ED.out]
      have HDL := Lib.hid hdl
      generalize t.drop 2 = td at *
      clear hdl
      obtain ⟨i32, hi, hz0, hz1, hz2⟩ := info_parts info32x
      have I0 := Lib.hid hi
      have Z0 := Lib.hid hz0
      have Z1 := Lib.hid hz1
      have Z2 := Lib.hid hz2
      clear hi hz0 hz1 hz2 EX ED h2i hbs hq
      go_loopw [4, 7, 8, 9, 10] (fun tt v i _ _ wr => ∃ (j : Nat) (L : List OW) (r : List UInt8) (vs : List Value), j ≤ n ∧ i = .int .i64 (j : Int) ∧ tt = .string ⟨r.toArray⟩ ∧ r.length ≤ 90000 ∧ r.length + j ≤ td.length ∧ gOrds j td = some (L, r) ∧ wr.ownsRow w.heap.size 32 3 v j vs ∧ (∀ i x, L[i]? = some x → CellsO wr vs i x) ∧ Same w wr) (fun _ _ i _ _ _ => n - (intOf i).toNat)
      case atStart => exact ⟨0, [], td, [], by omega, rfl, rfl, HDL.out, by omega, rfl, ⟨rfl, .inr ⟨_, 0, #[], rfl, K1.out.size, heap_new _ _, Nat.le_refl _, by unfold maxLen; omega, rfl, rfl⟩⟩, fun i x h => by simp at h, K1.out.alloc _⟩
      case round =>
        obtain ⟨j, L, r, vs, hj, rfl, rfl, hr, hrj, hgo, hown, hcells, hM⟩ := hrel
        have O1 := Lib.hid hown
        have CL := Lib.hid hcells
        have MX := Lib.hid hM
        have HG := Lib.hid hgo
        have hsz := hM.size
        have hbr := bytes_size r
        clear hown hcells hM hgo
        by_cases hlt : j < n
        · have HRd := Lib.hid (fun w => refread_any r (by omega) w)
          unfold ReadA at HRd
          cases hg : gOrd r with
          | none =>
            have hpk2 : parseK l = none := by
              rw [hpk]
              have h1 : gOrds (j + 1) td = none := by rw [gOrds_snoc j td L r HG.out, hg]
              have h3 := gOrds_stop h1 (n - (j + 1))
              rw [show j + 1 + (n - (j + 1)) = n by omega] at h3
              split
              · rfl
              · first | (rw [h3]; done) | (rw [h3]; rfl) | simp only [h3]
            unfold ParseA at HR
            rw [hpk2] at HR
            rw [hg] at HRd
            dsimp only at HR HRd
            clear hpk hpk2 hg
            go_wp2_with fail
            refine (HRd.out _).mono ?_
            rintro e w3 ⟨rfl, M3⟩
            have P2 := Lib.hid (MX.out.same M3)
            clear M3 HRd
            go_wp2
            exact HR.out _ _ ⟨⟨_, rfl⟩, P2.out.alloc _⟩
          | some pq =>
            obtain ⟨x, q⟩ := pq
            rw [hg] at HRd
            dsimp only at HRd
            obtain ⟨k, hk0, hkl, hqd, hlen⟩ := gOrd_suf hg
            rw [hlen] at HRd
            have HS := Lib.hid (show gOrds (j + 1) td = some (L ++ [x], q) by rw [gOrds_snoc j td L r HG.out, hg])
            have HLL := Lib.hid (gOrds_len j td L r HG.out).1
            have ED0 := drop_bytes ⟨r.toArray⟩ k
            rw [bytes_size] at ED0
            have ED := Lib.hid (show (⟨r.toArray⟩ : ByteArray).extract k r.length = ⟨q.toArray⟩ by rw [hqd]; exact ED0)
            have hql : q.length ≤ 90000 ∧ q.length + (j + 1) ≤ td.length := by rw [hqd, List.length_drop]; omega
            have hkz : ((k : Int) == 0) = false := by rw [beq_eq_false_iff_ne]; omega
            have hk1 : (0 : Int) ≤ (k : Int) := by omega
            have hk2 : (k : Int) ≤ (r.length : Int) := by omega
            clear hg hqd hlen ED0
            go_wp2_with fail
            refine (HRd.out _).mono ?_
            rintro e w3 ⟨⟨a1, c1, a2, c2, rfl, r1, r2⟩, M3⟩
            have P2 := Lib.hid (MX.out.same M3)
            have R1 := Lib.hid r1
            have R2 := Lib.hid r2
            have O2 := Lib.hid (owns_same O1.out M3)
            have CM := Lib.hid M3
            have hvl : vs.length = j * 3 := O1.out.1
            have HVL := Lib.hid hvl
            have hw3 : w.heap.size ≤ w3.heap.size := P2.out.size
            have T3a := three_new (w3.alloc (.cells #[.int .i64 ((x.k : Int) + 1), .slice a1 x.ns.length c1, .slice a2 x.ts.length c2] 32)) (.int .i64 ((x.k : Int) + 1)) (.slice a1 x.ns.length c1) (.slice a2 x.ts.length c2) 32
            rw [World.size_alloc] at T3a
            have T3 := Lib.hid T3a
            clear M3 HRd r1 r2 MX hvl T3a
            go_wp2_with (at_builtin; refine wpList_append_own _ rfl (.tmp 42) (.tmp 44) 61 rfl w.heap.size 32 i32 (.agg #[.int .i64 0, .slice none 0 0, .slice none 0 0]) 3 56 Tryz.underlying61 I0.out Z0.out Z1.out Z2.out rfl (by decide) _ _ _ rfl ((O2.out.alloc _).alloc _) ⟨w3.heap.size + 1, 0, none⟩ 1 1 [.int .i64 ((x.k : Int) + 1), .slice a1 x.ns.length c1, .slice a2 x.ts.length c2] rfl rfl T3.out (fun u hu => (by simp at hu; rcases hu with rfl | rfl | rfl <;> rfl)) (by unfold maxLen; omega) (by omega) (by simp only [World.size_alloc]; omega) ?_; intro v' w5 hown' hgrow _)
            have Q1 := Lib.hid (same_append (P2.out.alloc _) (O2.out.alloc _) hgrow)
            have Q2 := Lib.hid hown'
            have hkd := owns_kind3 (O2.out.alloc (.cells #[.int .i64 ((x.k : Int) + 1), .slice a1 x.ns.length c1, .slice a2 x.ts.length c2] 32))
            have Q3 := Lib.hid (cells_step (w := wr) (w' := w5) (news := [.int .i64 ((x.k : Int) + 1), .slice a1 x.ns.length c1, .slice a2 x.ts.length c2]) (x := x) HLL.out HVL.out CL.out (fun a us h => RowT.grown (h.same (CM.out.alloc _)) hgrow hkd (by decide)) (fun a us h => RowT.grown (h.same (CM.out.alloc _)) hgrow hkd (by decide)) ⟨a1, c1, a2, c2, rfl, rfl, rfl, RowT.grown (R1.out.same ((Mod.refl _ _).alloc _)) hgrow hkd (by decide), RowT.grown (R2.out.same ((Mod.refl _ _).alloc _)) hgrow hkd (by decide)⟩)
            clear hown' hgrow hkd R1 R2 O2 CM T3 P2 CL O1
            go_wp2_with fail
            go_roundw
            case rel => exact ⟨j + 1, L ++ [x], q, vs ++ [.int .i64 ((x.k : Int) + 1), .slice a1 x.ns.length c1, .slice a2 x.ts.length c2], by omega, by go_num, by rw [ED.out], hql.1, hql.2, HS.out, Q2.out, Q3.out, Q1.out⟩
            case measure => simp [intOf]; omega
        · obtain rfl : j = n := by omega
          obtain ⟨va, vc, rfl⟩ := owns_slice O1.out
          have hLL := (gOrds_len j td L r HG.out).1
          rw [HG.out] at hpk
          unfold ParseA at HR
          cases r with
          | nil =>
            by_cases h4 : 400 < j
            · rw [if_pos h4] at hpk
              rw [hpk] at HR
              dsimp only at HR
              have d4 : decide ((j : Int) ≤ 400) = false := decide_eq_false (by omega)
              clear hpk h4 hLL
              go_wp2
              exact HR.out _ _ ⟨⟨_, rfl⟩, MX.out⟩
            · rw [if_neg h4] at hpk
              rw [hpk] at HR
              dsimp only at HR
              rw [hLL] at HR
              have HLL := Lib.hid hLL
              have d4 : decide ((j : Int) ≤ 400) = true := decide_eq_true (by omega)
              clear hpk h4 hLL
              go_wp2
              exact HR.out _ _ ⟨⟨va, vc, rfl, ords_of_owns O1.out HLL.out CL.out⟩, MX.out⟩
          | cons c r2 =>
            have hpk2 : parseK l = none := by
              rw [hpk]
              split <;> rfl
            rw [hpk2] at HR
            dsimp only at HR
            have hlz : (((c :: r2).length : Int) == 0) = false := by rw [beq_eq_false_iff_ne, List.length_cons]; omega
            clear hpk hpk2 hLL
            generalize c :: r2 = r at *
            go_wp2
            exact HR.out _ _ ⟨⟨_, rfl⟩, MX.out⟩
end Go.Proofs.YtdengmlidckkeaaGreatDoor
namespace Go.Proofs.YtdengmlidckkeaaGreatDoor
open Go Go.RowKit
theorem refbytes38m (o : OW) (hf : o.form) (hfit : o.fits = true) (a b : Option Addr) (c d : Nat) (w : World) (hn : RowAt w a (o.ns.map (Value.int .i64))) (ht : RowAt w b (o.ts.map strV)) :
    Calls Tryz.prog 23 #[.agg #[.int .i64 ((o.k : Int) + 1), .slice a (o.ns.map (Value.int .i64)).length c, .slice b (o.ts.map strV).length d]] w fun e w' => e = .returned (.tuple #[.string ⟨(packW o).toArray⟩, .bool true]) ∧ Same w w' := by
  have h := refbytes38 o hf hfit a b c d w hn ht
  simp only [List.length_map]
  exact h
theorem same_mix (x : OW) (fx : x.form) (a1 a2 b1 b2 : Option Addr) (c1 c2 d1 d2 : Nat) (w : World) (hn1 : RowAt w a1 (x.ns.map (Value.int .i64))) (hn2 : RowAt w a2 (x.ns.map (Value.int .i64))) (ht1 : RowAt w b1 (x.ts.map strV)) (ht2 : RowAt w b2 (x.ts.map strV)) :
    Calls Tryz.prog 13 #[.agg #[.int .i64 ((x.k : Int) + 1), .slice a1 (x.ns.map (Value.int .i64)).length c1, .slice b1 (x.ts.map strV).length d1], .agg #[.int .i64 ((x.k : Int) + 1), .slice a2 x.ns.length c2, .slice b2 x.ts.length d2]] w fun e w' => e = .returned (.bool true) ∧ Same w w' := by
  have h := same_ord x x fx fx a1 a2 b1 b2 c1 c2 d1 d2 w hn1 hn2 ht1 ht2
  simp only [List.length_map, decide_true] at h ⊢
  exact h
set_option maxRecDepth 10000 in
set_option maxHeartbeats 1000000 in
theorem all_mix (L : List OW) (hL : ∀ o ∈ L, o.form) (hbad : ∃ o ∈ L, o.fits = false) (a : Option Addr) (n c : Nat) (hn : L.length = n) (hn4 : n ≤ 400) (w : World) (hT : TabOK w) (hc : RowAt w a (L.map ordW)) :
    Calls Tryz.prog 25 #[.slice a n c] w fun e w' => e = .returned (.tuple #[.string ⟨#[]⟩, .int .i64 1]) ∧ Same w w' := by
  refine opq fun R HR => ?_
  have HL := Lib.hid hL
  have HBd := Lib.hid hbad
  have HN := Lib.hid hn
  have HT := Lib.hid hT
  have HC := Lib.hid hc
  have h4 := tab_lt hT
  clear hL hn hT hc hbad
  have H0 := Lib.hid (wr_new w w.heap.size (Nat.le_refl _))
  have B0 := Lib.hid (Below.alloc (Below.refl w.heap.size w) (Nat.le_refl _) (.cells #[.pointer none, .slice none 0 0] 115))
  have hnn : U64 (n : Int) := by unfold U64; omega
  go_enter Tryz.func25, Tryz.ntmps25
  go_wp2_with fail
  have hW0 : w.heap.size ≤ (w.alloc (.cells #[.pointer none, .slice none 0 0] 115)).heap.size := B0.out.size
  generalize w.alloc _ = W at *
  generalize hZ : w.heap.size = Z at *
  refine (put_any Z Z [] (n : Int) 2 2 (by decide) W H0.out hnn (by simp) hW0).mono ?_
  rintro e w1 ⟨rfl, h1, h2, _⟩
  rw [List.nil_append] at h1
  have K1 := Lib.hid h1
  have K2 := Lib.hid (B0.out.trans h2)
  clear h1 h2 H0 B0
  go_wp2_with fail
  go_loopw [17, 6, 7] (fun i _ _ wr => ∃ k : Nat, k ≤ n ∧ i = .int .i64 k ∧ (∀ o ∈ L.take k, o.fits = true) ∧ WrF wr Z Z (Lib.byteCells (leB (n : Int) 2 ++ (L.take k).flatMap packW)) ∧ Below Z w wr) (fun i _ _ _ => n - (intOf i).toNat)
  case atStart => exact ⟨0, by omega, rfl, fun o h => by simp at h, by simpa using K1.out, K2.out⟩
  case round =>
    obtain ⟨k, hk, rfl, hft, hW, hB⟩ := hrel
    have FT := Lib.hid hft
    have L1 := Lib.hid hW
    have L2 := Lib.hid hB
    have hszr : Z ≤ wr.heap.size := by rw [← hZ]; exact hB.size
    clear hW hB hft
    by_cases hlt : k < n
    · have hkL : k < L.length := by rw [HN.out]; exact hlt
      obtain ⟨o, ho⟩ : ∃ o, L[k]? = some o := ⟨_, List.getElem?_eq_getElem hkL⟩
      have hok := HL.out o (List.mem_of_getElem? ho)
      obtain ⟨b, o0, rfl, hb, hcc⟩ := HC.out (by rw [List.length_map]; omega)
      have hcx := (World.cell?_of_block (w := w) (L2.out.block b (by omega))).trans (hcc k (ordW o) (by rw [List.getElem?_map, ho]; rfl))
      have E := Lib.hid (flatW_take L k o ho)
      have hlk : ((L.take k).flatMap packW).length ≤ 1600 * k := by
        have := flatW_len (L.take k) (fun o ho => ⟨HL.out o (List.mem_of_mem_take ho), FT.out o ho⟩)
        rw [List.length_take] at this; omega
      cases hfo : o.fits with
      | true =>
        have FT2 := Lib.hid (show ∀ y ∈ L.take (k + 1), y.fits = true by
          intro y hy
          obtain ⟨hk9, hok9⟩ := List.getElem?_eq_some_iff.1 ho
          rw [List.take_succ_eq_append_getElem hk9] at hy
          rcases List.mem_append.1 hy with h | h
          · exact FT.out y h
          · rw [List.mem_singleton.1 h, hok9]; exact hfo)
        have HPt := Lib.hid (put_ok o hok hfo wr (tab_below HT.out L2.out (by omega)) Z Z _ L1.out (by rw [List.length_append, leB_len]; omega) hszr (by omega))
        have hbr : b < wr.heap.size := by omega
        have hk1 : (0 : Int) ≤ (k : Int) := by omega
        have hk2 : (k : Int) < (n : Int) := by omega
        obtain ⟨T, x, hv⟩ := ordW_if o
        rw [hv] at hcx HPt
        clear ho hkL hok hv hlk hcc hfo
        go_wp2_with fail
        refine HPt.out.mono ?_
        rintro e w2 ⟨rfl, h1, h2⟩
        have P1 := Lib.hid h1
        have P2 := Lib.hid (L2.out.trans h2)
        clear h1 h2 L1 L2 HPt hcx
        go_wp2_with fail
        go_roundw
        case rel => exact ⟨k + 1, by omega, by go_num, FT2.out, by rw [E.out, ← List.append_assoc]; exact P1.out, P2.out⟩
        case measure => simp [intOf]; omega
      | false =>
        have HPt := Lib.hid (fun p => put_bad o hok hfo wr p)
        have hbr : b < wr.heap.size := by omega
        have hk1 : (0 : Int) ≤ (k : Int) := by omega
        have hk2 : (k : Int) < (n : Int) := by omega
        obtain ⟨T, x, hv⟩ := ordW_if o
        rw [hv] at hcx HPt
        have hZ2 := Lib.hid hZ
        clear ho hkL hok hv hlk hcc hfo hZ
        go_wp2_with fail
        refine (HPt.out _).mono ?_
        rintro e w2 ⟨rfl, M2⟩
        have P2 := Lib.hid ((Same.of_below (by rw [hZ2.out]; exact L2.out) : Same w wr).same M2)
        clear M2 L1 L2 HPt hcx
        go_wp2
        exact HR.out _ _ ⟨rfl, P2.out⟩
    · exfalso
      obtain rfl : k = n := by omega
      obtain ⟨o, ho, hof⟩ := HBd.out
      have := FT.out o (by rw [List.take_of_length_le (by rw [HN.out]; exact Nat.le_refl _)]; exact ho)
      rw [hof] at this
      cases this
end Go.Proofs.YtdengmlidckkeaaGreatDoor
/- Opening arguments that came in: integers, bools, strings, structs, slices. Over whatever program. -/
namespace Go.Proofs.YtdengmlidckkeaaGreatDoor
open Go Go.RowKit Go.ChangeShapes Go.WideShapes Go.Deep
section
variable {H : Type} {enc : TypeId × Value → H} {P : Program} {w : World} {base b0 : Nat} {spare : Nat → Bool} {held : Bool}
theorem int_of_trod {t : TypeId} {k : IntKind} {n : Nat} {cs : List Value} {x : DataW H × List MemPlace} (ht : P.underlying t = some (.int k)) (h : DataW.trod enc P w base spare held n t cs = some x) :
    ∃ z, cs = [.int k z] ∧ (Lit.int k z).wf = true := by
  obtain ⟨z, hz, _, hw⟩ := DataW.trod_int ht h; exact ⟨z, hz, hw⟩
theorem bool_of_trod {t : TypeId} {n : Nat} {cs : List Value} {x : DataW H × List MemPlace} (ht : P.underlying t = some .bool) (h : DataW.trod enc P w base spare held n t cs = some x) :
    ∃ z, cs = [.bool z] := by
  obtain ⟨z, hz, _⟩ := DataW.trod_bool ht h; exact ⟨z, hz⟩
theorem string_of_trod {t : TypeId} {n : Nat} {cs : List Value} {x : DataW H × List MemPlace} (ht : P.underlying t = some .string) (h : DataW.trod enc P w base spare held n t cs = some x) :
    ∃ z : ByteArray, cs = [.string z] ∧ z.size ≤ maxLen := by
  obtain ⟨z, hz, _, hl⟩ := DataW.trod_string ht h; exact ⟨z, hz, hl⟩
theorem fields_of_trod {t : TypeId} {fs : Array Field} {n : Nat} {cs : List Value} {x : DataW H × List MemPlace} (ht : P.underlying t = some (.struct fs)) (h : DataW.trod enc P w base spare held n t cs = some x) :
    ∃ m, cs.length = P.cellsOf t ∧ ∀ (i : Nat) (f : Field), fs[i]? = some f → ∃ y, DataW.trod enc P w base spare held m f.type ((cs.drop f.offset).take (P.cellsOf f.type)) = some y := by
  obtain ⟨xs, m, _, _, hl, hxl, hf⟩ := DataW.trod_struct ht h
  refine ⟨m, hl, fun i f hi => ?_⟩
  have : i < xs.length := by rw [hxl]; exact (Array.getElem?_eq_some_iff.1 hi).1
  exact ⟨xs[i], (hf i f hi).trans (List.getElem?_eq_getElem this)⟩
theorem slice_of_trod {t e : TypeId} {n c : Nat} {cs : List Value} {x : DataW H × List MemPlace} (ht : P.underlying t = some (.slice e)) (hC : P.cellsOf e = c) (hc : 0 < c) (h : DataW.trod enc P w base spare held n t cs = some x) :
    ∃ (a : Option Addr) (len cap : Nat), cs = [.slice a len cap] ∧ len ≤ cap ∧ cap ≤ maxLen ∧ (0 < len → ∃ b o, a = some ⟨b, o, none⟩ ∧ b < w.heap.size ∧
      ∀ i, i < len → ∃ (m : Nat) (ds : List Value) (y : DataW H × List MemPlace), ds.length = c ∧ (∀ j, j < c → w.cell? ⟨b, o + i * c + j, none⟩ = ds[j]?) ∧ DataW.trod enc P w base spare held m e ds = some y) := by
  rcases open_slice ht h with ⟨h0, _⟩ | ⟨a, len, cap, m, k, D, Pl, hcs, _, hl, hm, hmm, _, hi⟩
  · exact ⟨none, 0, 0, h0, Nat.le_refl _, Nat.zero_le _, fun h => absurd h (by omega)⟩
  · refine ⟨some a, len, cap, hcs, hl, hm, fun hp => ?_⟩
    have hlm : len ≤ m := by rw [hmm]; split <;> omega
    have cellAt : ∀ i, i < m → ∃ ds, ds.length = c ∧ (∀ j, j < c → w.cell? ((a.add (i * c)).add j) = ds[j]?) ∧ DataW.trod enc P w base spare held k e ds = some (D i, Pl i) := by
      intro i him
      obtain ⟨ds, h1, h2⟩ := hi i him
      rw [hC] at h1
      obtain ⟨_, h3, h4⟩ := World.cells?_some h1
      exact ⟨ds, h3, h4, h2⟩
    obtain ⟨b, o, s⟩ := a
    obtain ⟨ds, hd, h0, _⟩ := cellAt 0 (by omega)
    have h00 := h0 0 hc
    rw [Nat.zero_mul] at h00
    have e0 : (Addr.add (Addr.add ⟨b, o, s⟩ 0) 0) = ⟨b, o, s⟩ := rfl
    rw [e0, List.getElem?_eq_getElem (by omega)] at h00
    have hs : s = none := by
      cases s with
      | none => rfl
      | some q => exfalso; unfold World.cell? at h00; split at h00 <;> simp at h00
    subst hs
    have hb : b < w.heap.size := by
      rcases Nat.lt_or_ge b w.heap.size with h' | h'
      · exact h'
      · exfalso; unfold World.cell? at h00; rw [Array.getElem?_eq_none h'] at h00; simp at h00
    refine ⟨b, o, rfl, hb, fun i hil => ?_⟩
    obtain ⟨ds, hd, h1, h2⟩ := cellAt i (by omega)
    refine ⟨k, ds, _, hd, fun j hj => ?_, h2⟩
    rw [← h1 j hj]
    congr 1
    unfold Addr.add
    split <;> split <;> simp_all [Nat.add_assoc]
theorem int_open {t : TypeId} {k : IntKind} {v : Value} {d : DataW H} {p : List MemPlace} (ht : P.underlying t = some (.int k)) (hv : Value.okWide P w .any b0 t v) (h : DataW.Trod enc P w base spare held t v d p) :
    ∃ z, v = .int k z ∧ (Lit.int k z).wf = true := by
  obtain ⟨m, rfl⟩ := okWide_int ht hv
  obtain ⟨n, h⟩ := h
  obtain ⟨z, hz, hw⟩ := int_of_trod ht h
  simp [Value.cells] at hz
  subst hz
  exact ⟨_, rfl, hw⟩
theorem slice_opens {t e : TypeId} {c : Nat} {v : Value} {d : DataW H} {p : List MemPlace} (ht : P.underlying t = some (.slice e)) (hC : P.cellsOf e = c) (hc : 0 < c) (hv : Value.okWide P w .any b0 t v) (h : DataW.Trod enc P w base spare held t v d p) :
    ∃ (a : Option Addr) (len cap : Nat), v = .slice a len cap ∧ len ≤ cap ∧ cap ≤ maxLen ∧ (0 < len → ∃ b o, a = some ⟨b, o, none⟩ ∧ b < w.heap.size ∧
      ∀ i, i < len → ∃ (m : Nat) (ds : List Value) (y : DataW H × List MemPlace), ds.length = c ∧ (∀ j, j < c → w.cell? ⟨b, o + i * c + j, none⟩ = ds[j]?) ∧ DataW.trod enc P w base spare held m e ds = some y) := by
  obtain ⟨a, len, cap, rfl⟩ := okWide_slice ht hv
  obtain ⟨n, h⟩ := h
  obtain ⟨a', len', cap', e, h1, h2, h3⟩ := slice_of_trod ht hC hc h
  simp only [Value.cells, List.cons.injEq, and_true, Value.slice.injEq] at e
  obtain ⟨rfl, rfl, rfl⟩ := e
  exact ⟨a, len, cap, rfl, h1, h2, h3⟩
/-- A slice of integers: a list's values. -/
theorem ints_open {t e : TypeId} {k : IntKind} {v : Value} {d : DataW H} {p : List MemPlace} (ht : P.underlying t = some (.slice e)) (he : P.underlying e = some (.int k)) (hC : P.cellsOf e = 1) (hv : Value.okWide P w .any b0 t v) (h : DataW.Trod enc P w base spare held t v d p) :
    ∃ (a : Option Addr) (len cap : Nat), v = .slice a len cap ∧ len ≤ cap ∧ cap ≤ maxLen ∧ (0 < len → ∃ b o, a = some ⟨b, o, none⟩ ∧ b < w.heap.size ∧
      ∀ i, i < len → ∃ z, w.cell? ⟨b, o + i, none⟩ = some (.int k z) ∧ (Lit.int k z).wf = true) := by
  obtain ⟨a, len, cap, rfl, h1, h2, h3⟩ := slice_opens ht hC (by omega) hv h
  refine ⟨a, len, cap, rfl, h1, h2, fun hp => ?_⟩
  obtain ⟨b, o, ha, hb, hi⟩ := h3 hp
  refine ⟨b, o, ha, hb, fun i hil => ?_⟩
  obtain ⟨m, ds, y, hd, hc, ht⟩ := hi i hil
  obtain ⟨z, rfl, hw⟩ := int_of_trod he ht
  exact ⟨z, by have := hc 0 (by omega); simpa using this, hw⟩
theorem bools_open {t e : TypeId} {v : Value} {d : DataW H} {p : List MemPlace} (ht : P.underlying t = some (.slice e)) (he : P.underlying e = some .bool) (hC : P.cellsOf e = 1) (hv : Value.okWide P w .any b0 t v) (h : DataW.Trod enc P w base spare held t v d p) :
    ∃ (a : Option Addr) (len cap : Nat), v = .slice a len cap ∧ len ≤ cap ∧ cap ≤ maxLen ∧ (0 < len → ∃ b o, a = some ⟨b, o, none⟩ ∧ b < w.heap.size ∧
      ∀ i, i < len → ∃ z, w.cell? ⟨b, o + i, none⟩ = some (.bool z)) := by
  obtain ⟨a, len, cap, rfl, h1, h2, h3⟩ := slice_opens ht hC (by omega) hv h
  refine ⟨a, len, cap, rfl, h1, h2, fun hp => ?_⟩
  obtain ⟨b, o, ha, hb, hi⟩ := h3 hp
  refine ⟨b, o, ha, hb, fun i hil => ?_⟩
  obtain ⟨m, ds, y, hd, hc, ht⟩ := hi i hil
  obtain ⟨z, rfl⟩ := bool_of_trod he ht
  exact ⟨z, by have := hc 0 (by omega); simpa using this⟩
end
end Go.Proofs.YtdengmlidckkeaaGreatDoor
namespace Go.Proofs.YtdengmlidckkeaaGreatDoor
open Go Go.ChangeShapes Go.WideShapes Go.ChangeAt Go.RowKit Go.Lib
theorem ownT : ownKnob Tryz.prog.godebug = none := by kernel_rfl
theorem laidOutT : laidOutB Tryz.prog = true := by kernel_rfl
abbrev laid7 : List (String × DataW Unit) := Rows.orderExactRow.laid
theorem tab167 : (Tryz.prog.globals[4]?).map (·.type) = some 179 := by kernel_rfl
theorem glob2 : (Tryz.prog.globals[2]?).map (·.type) = some 129 := by kernel_rfl
theorem glob3 : (Tryz.prog.globals[3]?).map (·.type) = some 129 := by kernel_rfl
theorem string_open {P : Program} {base : Nat} {W : World} {t : TypeId} {v : Value} (ht : P.underlying t = some .string) (hv : Value.okWide P W .any base t v) : ∃ l : List UInt8, v = .string ⟨l.toArray⟩ := by
  obtain ⟨s, rfl⟩ := okWide_string ht hv
  exact ⟨s.data.toList, rfl⟩
theorem i64_wf {z : Int} (h : (Lit.int .i64 z).wf = true) : I64 z := by
  simp [Lit.wf, IntKind.min, IntKind.max, IntKind.signed, IntKind.bits] at h
  unfold I64; omega
theorem iface_read {W : World} {n nm : String} {d : DataW Unit} {g : Nat} {ms : Array (String × TypeId)} (h : VarReads Tryz.prog W n (.iface nm d)) (hg : Tryz.prog.globalNamed n = some g) (ht : (Tryz.prog.globals[g]?).map (·.type) = some 129) (hi : Tryz.prog.underlying 129 = some (.interface ms)) :
    ∃ tp p, W.var? Tryz.prog n = some #[.iface tp p] := by
  obtain ⟨g0, t0, cs, fuel, p, hg0, hty, hvar, hd⟩ := h
  obtain rfl := Option.some.inj (hg.symm.trans hg0)
  obtain rfl := Option.some.inj (ht.symm.trans hty)
  obtain ⟨f1, u, v, hc, _⟩ := iface_of_trod hi hd
  obtain ⟨l⟩ := cs
  dsimp only at hc
  subst hc
  exact ⟨u, v, hvar⟩
theorem u8extra : U8Extra Tryz.prog Tryz.lays196_ren := ⟨by kernel_rfl, by kernel_rfl, by kernel_rfl, by kernel_rfl, by kernel_rfl, by kernel_rfl, by kernel_rfl⟩
set_option maxRecDepth 100000 in
theorem lib_of {W : World} (h : laidMetH Tryz.prog laid7 W) (hsh : W.ShapedOpen Tryz.prog) : LibOK W := by
  rw [MakeChecks.laidMetH_plain _ _ _ (by kernel_rfl)] at h
  refine ⟨⟨?_, ?_, ?_⟩, ?_, ?_⟩
  · exact Lib.tabIs_of_head tabG tab167 Tryz.underlying179 Tryz.underlying52 (by kernel_rfl) (by kernel_rfl) h.tail.tail
  · exact iface_read (Lib.laidMet.reads h.tail.tail.tail.tail.tail (List.mem_cons_self)) synG glob2 Tryz.underlying129
  · exact iface_read (Lib.laidMet.reads h.tail.tail.tail.tail (List.mem_cons_self)) rngG glob3 Tryz.underlying129
  · refine utf8Tabs_of_readsT (U8Types.of196 Tryz.lays196) u8extra ?_ ?_
    · have := Lib.laidMet.reads h.tail.tail.tail.tail.tail.tail (n := "unicode/utf8.first") (d := Rows.laid_unicode_utf8_first) (List.mem_cons_self)
      rw [show Rows.laid_unicode_utf8_first = firstData from Pinned.utf8First_eq] at this
      exact this
    · have := Lib.laidMet.reads h.tail.tail.tail (n := "unicode/utf8.acceptRanges") (d := Rows.laid_unicode_utf8_acceptRanges) (List.mem_cons_self)
      rw [show Rows.laid_unicode_utf8_acceptRanges = acceptData by kernel_rfl] at this
      exact this
  · exact cell_of_shapedOpen_int (t := 3) (zero := #[.int .i64 0]) hsh (of_decide_eq_true (by kernel_rfl)) (by kernel_rfl) rfl (by kernel_rfl) (by kernel_rfl) Tryz.underlying3
/-- The wrap with the listed variables and the world's shape. -/
theorem returns_laid_shaped {H : Type} {enc : TypeId × Value → H} {C : Checked} {os : Os} {f : FuncId} {fn : Func} {s : ChangeSpec} {laid : List (String × DataW Unit)}
    (own : ownKnob C.prog.godebug = none) (started : os.Started) (noInit : C.prog.inits.idxOf? f = none) (hfn : C.prog.funcs[f]? = some fn)
    (witness : ∃ (w : World) (tape : Tape) (i : Input), w.os = os ∧ (w.forCall tape i).Shaped C.prog ∧ i.vars = [] ∧ Input.okWide C.prog (w.forCall tape i) .any w.heap.size f i ∧
      ((s.pre enc C.prog fn [] false (w.forCall tape i).memory i.args ∧ laidMetH C.prog laid (w.forCall tape i).memory) ∧ sizedMet enc C.prog fn (OpenSpec.ofChange s) false (w.forCall tape i).memory i.args) ∧ Assume.holds {} C.prog (lone (Frame.enter C.prog f i.args .normal) [] (w.forCall tape i)))
    (contract : ∀ (W : World) (base : Nat) (args : Array Value) (ds gs : List (DataW H)) (before : List MemPlace),
      (∀ (j : Nat) t v, fn.params[j]? = some t → args[j]? = some v → Value.okWide C.prog W .any base t v) →
      DataW.Whole enc C.prog fn.params.toList s.vars false W args.toList ds gs before → laidMetH C.prog laid W → W.ShapedOpen C.prog →
      Calls C.prog f args W fun e W' => ∃ v, e = .returned v ∧ s.post enc C.prog fn false true false false W args v W') :
    ReturnsInHanded {} C os f .any (fun w args => (s.pre enc C.prog fn [] false w args ∧ laidMetH C.prog laid w) ∧ sizedMet enc C.prog fn (OpenSpec.ofChange s) false w args) (s.post enc C.prog fn false true false false) := by
  refine returnsInHanded_of_calls own started noInit witness fun w tape i _ hsh _ hok hpre hholds => ?_
  obtain ⟨_, _, _, fn', hfn', _, _, _, _, hval⟩ := hok
  obtain rfl : fn' = fn := Option.some.inj (hfn'.symm.trans hfn)
  obtain ⟨⟨⟨ds, gs, before, hw, _⟩, hl⟩, _⟩ := hpre
  have hw' := DataW.Whole.of_heap (w' := w.forCall tape i) (by rfl) hw
  refine (contract (w.forCall tape i) w.heap.size i.args ds gs before hval hw' (hl.of_heap (by rfl)) hsh).mono fun e W' ⟨v, he, hp⟩ => ?_
  subst he
  exact ChangeSpec.post_blind hp
end Go.Proofs.YtdengmlidckkeaaGreatDoor
namespace Go.Proofs.YtdengmlidckkeaaGreatDoor
open Go Go.ChangeShapes Go.WideShapes Go.ChangeAt Go.RowKit
/-- A slice of strings that came in: a list. -/
theorem strings_open {H : Type} {enc : TypeId × Value → H} {P : Program} {w : World} {base b0 : Nat} {spare : Nat → Bool} {held : Bool} {t e : TypeId} {v : Value} {d : DataW H} {p : List MemPlace} (ht : P.underlying t = some (.slice e)) (he : P.underlying e = some .string) (hC : P.cellsOf e = 1) (hv : Value.okWide P w .any b0 t v) (h : DataW.Trod enc P w base spare held t v d p) :
    ∃ (l : List (List UInt8)) (a : Option Addr) (n c : Nat), v = .slice a n c ∧ l.length = n ∧ RowAt w a (l.map strV) := by
  obtain ⟨a, len, cap, rfl, h1, h2, h3⟩ := slice_opens ht hC (by omega) hv h
  by_cases hl : 0 < len
  · obtain ⟨b, o, rfl, hb, hi⟩ := h3 hl
    have hs : ∀ i, i < len → ∃ l : List UInt8, w.cell? ⟨b, o + i, none⟩ = some (strV l) := by
      intro i hil
      obtain ⟨m, ds, y, hd, hc, ht2⟩ := hi i hil
      obtain ⟨s, rfl, _⟩ := string_of_trod he ht2
      exact ⟨s.data.toList, by have := hc 0 (by omega); rw [Nat.mul_one, Nat.add_zero] at this; exact this⟩
    refine ⟨(List.range len).map fun i => if hi : i < len then Classical.choose (hs i hi) else [], _, len, cap, rfl, by simp, fun _ => ⟨b, o, rfl, hb, fun i u hu => ?_⟩⟩
    rw [List.getElem?_map, List.getElem?_map] at hu
    by_cases hil : i < len
    · rw [List.getElem?_range hil] at hu
      simp only [Option.map_some, Option.some.injEq, dif_pos hil] at hu
      rw [← hu]
      exact Classical.choose_spec (hs i hil)
    · rw [List.getElem?_eq_none (by rw [List.length_range]; omega)] at hu
      cases hu
  · obtain rfl : len = 0 := by omega
    exact ⟨[], a, 0, cap, rfl, rfl, fun q => by simp at q⟩
theorem u32_open {H : Type} {enc : TypeId × Value → H} {P : Program} {w : World} {base b0 : Nat} {spare : Nat → Bool} {held : Bool} {t : TypeId} {v : Value} {d : DataW H} {p : List MemPlace} (ht : P.underlying t = some (.int .u32)) (hv : Value.okWide P w .any b0 t v) (h : DataW.Trod enc P w base spare held t v d p) :
    ∃ m : Nat, v = .int .u32 (m : Int) ∧ m < 4294967296 := by
  obtain ⟨z, rfl, hw⟩ := int_open ht hv h
  have hz : 0 ≤ z ∧ z ≤ 4294967295 := by
    simp [Lit.wf, IntKind.min, IntKind.max, IntKind.signed, IntKind.bits] at hw
    omega
  obtain ⟨m, rfl⟩ := Int.eq_ofNat_of_zero_le hz.1
  exact ⟨m, rfl, by omega⟩
end Go.Proofs.YtdengmlidckkeaaGreatDoor
namespace Go.Proofs.YtdengmlidckkeaaGreatDoor
open Go Go.RowKit
theorem parseK_form {l : List UInt8} {M : List OW} (h : parseK l = some M) : M.length ≤ 400 ∧ ∀ o ∈ M, o.form ∧ o.fits = true := by
  unfold parseK at h
  cases ho : openL l with
  | none => rw [ho] at h; cases h
  | some t =>
    rw [ho] at h
    dsimp only at h
    split at h
    · cases h
    · split at h
      · cases h
      · rename_i h4
        cases hg : gOrds (gLen t) (t.drop 2) with
        | none => rw [hg] at h; cases h
        | some p =>
          obtain ⟨L, r⟩ := p
          rw [hg] at h
          cases r with
          | nil =>
            cases h
            have := gOrds_len _ _ _ _ hg
            exact ⟨by rw [this.1]; omega, this.2⟩
          | cons c r => cases h
theorem make_u8 (w : World) (nn : Nat) (hn : nn ≤ 1000) : ∃ w', (Instr.makeSlice 64 (.int .i64 (500 + (nn : Int))) (.int .i64 (500 + (nn : Int)))).run Tryz.prog w = .ok (.slice (some ⟨w.heap.size, 0, none⟩) (500 + nn) (500 + nn)) w' ∧ BR w' w.heap.size (List.replicate (500 + nn) 0) ∧ Same w w' := by
  obtain ⟨i0, hi, hz0, hz1, hz2⟩ := info_parts info5
  have e : (500 + (nn : Int)) = ((500 + nn : Nat) : Int) := by omega
  rw [e]
  obtain ⟨w', hr, hown, hg⟩ := run_makeSlice_full (P := Tryz.prog) w w.heap.size 64 5 i0 (.int .u8 0) 1 Tryz.underlying64 hi hz0 hz1 .i64 .i64 (500 + nn) (by omega) (by rw [hz2]; omega) (by unfold maxLen; omega) (Nat.le_refl _)
  refine ⟨w', hr, ?_, (Mod.refl _ _).grown hg (fun k hk => by cases hk)⟩
  rw [show (Value.int IntKind.u8 0).cells = #[Value.int IntKind.u8 0] from rfl, toList_madeCells_one] at hown
  obtain ⟨g, cap, hv, hg0, hgc, hrow⟩ := RowV.of_owns hown (by omega)
  injection hv with ha _ _
  injection ha with ha
  injection ha with ha _
  subst ha
  refine ⟨hrow.lt, fun i hi => ?_, fun i _ => hrow.free i⟩
  rw [List.length_replicate] at hi
  refine (hrow.cell i (by omega)).trans ?_
  have h0 : (List.replicate (500 + nn) (0 : UInt8)).getD i 0 = 0 := by rw [List.getD_eq_getElem?_getD, List.getElem?_replicate]; split <;> rfl
  rw [h0]
  rw [List.getD_eq_getElem?_getD, List.getElem?_replicate, if_pos (by omega)]; rfl
theorem row2_new (w : World) (x y : Value) (T : TypeId) : RowAt (w.alloc (.cells #[x, y] T)) (some ⟨w.heap.size, 0, none⟩) [x, y] := fun _ => ⟨_, 0, rfl, by simp, two_new w x y T⟩
/-- The order of the last part: so many zeros. -/
def oZ (n : Nat) : OW := ⟨7, [0, 0], [List.replicate n 0]⟩
theorem oZ_form (n : Nat) : (oZ n).form := ⟨show 7 < 15 by decide, rfl, rfl, fun x hx => by unfold oZ at hx; simp at hx; subst hx; unfold I64; omega⟩
theorem oZ_fits (n : Nat) : (oZ n).fits = decide (n ≤ 512) := by unfold OW.fits oZ; simp
theorem oZ_val (n : Nat) : ordW (oZ n) = .iface 66 (.agg #[.int .i64 0, .int .i64 0, .string ⟨(List.replicate n (0 : UInt8)).toArray⟩]) := rfl
def oF : OW := ⟨9, [], []⟩
theorem oF_form : oF.form := ⟨show 9 < 15 by decide, rfl, rfl, fun x hx => by unfold oF at hx; simp at hx⟩
theorem oF_val : ordW oF = .iface 68 (.agg #[]) := rfl
theorem m_t0 (z : Int) : 0 ≤ (IntKind.u64.wrap z).tmod 30 := Int.tmod_nonneg _ (u64wrap_nonneg z).1
theorem m_t1 (z : Int) : (IntKind.u64.wrap z).tmod 30 < 30 := Int.tmod_lt_of_pos _ (by omega)
set_option maxRecDepth 10000 in
set_option maxHeartbeats 8000000 in
theorem packExact_walk (la : List (List UInt8)) (aa : Option Addr) (na ca : Nat) (hna : la.length = na) (s : List UInt8) (z : Int) (w : World) (hL : LibOK w) (hra : RowAt w aa (la.map strV)) :
    Calls Tryz.prog 4 #[.slice aa na ca, .string ⟨s.toArray⟩, .int .i64 z] w fun e w' => e = .returned (.bool true) ∧ Same w w' := by
  refine opq fun R HR => ?_
  have HL := Lib.hid hL
  have HT := Lib.hid hL.tab
  have HA := Lib.hid (fun (w : World) (hT : TabOK w) => awake_any w hT)
  have hbs := bytes_size s
  by_cases hs : s.length ≤ 4096
  · have d0 : decide ((4096 : Int) < (s.length : Int)) = false := decide_eq_false (by omega)
    have HO1 := Lib.hid (fun (w : World) (hL : LibOK w) (hr : RowAt w aa (la.map strV)) => orders_any la aa na ca hna w hL hr)
    have HRa := Lib.hid hra
    have lL := orders_len la
    have fL := orders_form la
    clear hL hna hra
    generalize ordersL la = L at *
    have HFL := Lib.hid fL
    have hSl := allW_len L fL
    have HAll1 := Lib.hid (fun a n c (hn : L.length = n) (hn4 : n ≤ 400) w hT hc => all_ow L fL a n c hn hn4 w hT hc)
    have HSe := Lib.hid (fun w => refSeal_any (allW L) (by omega) w)
    have HRd := Lib.hid (fun w => read_all s (by omega) w)
    have HRr := Lib.hid (fun w => refread_any s (by omega) w)
    have HPa := Lib.hid (fun w => parse_all s (by omega) w)
    have HPr := Lib.hid (fun w => refparse38 s (by omega) w)
    obtain ⟨nl, hnl⟩ : ∃ nl, L.length = nl := ⟨_, rfl⟩
    have HNl := Lib.hid hnl
    rw [hnl] at HO1 lL hSl
    have HB := Lib.hid (fun w => refB_any (nl : Int) 2 ⟨by omega, by omega⟩ 2 (by decide) w)
    have hwn : IntKind.u64.wrap (nl : Int) = (nl : Int) := wraps_u64 _ (by omega) (by omega)
    have EAl := Lib.hid (show allW L = leB (nl : Int) 2 ++ L.flatMap packW by unfold allW; rw [hnl])
    have hh2 : (leB (nl : Int) 2).length = 2 := leB_len _ _
    generalize leB (nl : Int) 2 = h0 at *
    clear hnl fL
    go_enter Tryz.func4, Tryz.ntmps4
    go_wp2_with fail
    refine (HA.out _ HT.out).mono ?_
    rintro e w1 ⟨rfl, M1⟩
    have K1 := Lib.hid M1
    clear M1 HA
    go_wp2_with fail
    refine (HO1.out _ (HL.out.same K1.out) (HRa.out.same K1.out)).mono ?_
    rintro e w2 ⟨a1, c1, rfl, r1, M2⟩
    have K2 := Lib.hid (K1.out.same M2)
    have R1b := Lib.hid r1
    clear M2 r1 HO1 HRa K1
    go_wp2_with fail
    refine (HB.out _).mono ?_
    rintro e w3 ⟨rfl, M3⟩
    have K3 := Lib.hid (K2.out.same M3)
    have R1 := Lib.hid (R1b.out.same M3)
    clear M3 HB K2 R1b hwn
    go_wp2_with fail
    go_loopw [8, 9, 10, 11, 12, 13] (fun t i _ _ _ _ wr => ∃ k : Nat, k ≤ nl ∧ i = .int .i64 (k : Int) ∧ t = .string ⟨(h0 ++ (L.take k).flatMap packW).toArray⟩ ∧ Same w3 wr) (fun _ i _ _ _ _ _ => nl - (intOf i).toNat)
    case atStart => exact ⟨0, by omega, rfl, by simp, Mod.refl _ _⟩
    case round =>
      obtain ⟨k, hk, rfl, rfl, hM⟩ := hrel
      have L2 := Lib.hid hM
      have hszr := hM.size
      clear hM
      by_cases hlt : k < nl
      · obtain ⟨o, ho⟩ : ∃ o, L[k]? = some o := ⟨_, List.getElem?_eq_getElem (by rw [HNl.out]; exact hlt)⟩
        have hok := HFL.out o (List.mem_of_getElem? ho)
        obtain ⟨bl, ol, rfl, hbl0, hccl⟩ := R1.out (by rw [List.length_map, HNl.out]; omega)
        have hcl := (L2.out.cell hbl0 (fun q => q) (ol + k)).trans (hccl k (ordW o) (by rw [List.getElem?_map, ho]; rfl))
        have hbl : bl < wr.heap.size := by omega
        have HBy := Lib.hid (bytes_ok o hok.1 hok.2)
        have HFo := Lib.hid (form38_any o hok.1 hok.2)
        have HBr := Lib.hid (refbytes38m o hok.1 hok.2)
        have hpl := packW_len o hok.1 hok.2
        have E := Lib.hid (show h0 ++ (L.take (k + 1)).flatMap packW = (h0 ++ (L.take k).flatMap packW) ++ packW o by rw [flatW_take L k o ho, List.append_assoc])
        have hfl : ((L.take k).flatMap packW).length ≤ 1600 * k := by
          have := flatW_len (L.take k) (fun o ho => HFL.out o (List.mem_of_mem_take ho))
          rw [List.length_take] at this; omega
        have hbt : (⟨(h0 ++ (L.take k).flatMap packW).toArray⟩ : ByteArray).size ≤ 60000 := by rw [bytes_size, List.length_append]; omega
        have hbp := bytes_size (packW o)
        have hk1 : (0 : Int) ≤ (k : Int) := by omega
        have hk2 : (k : Int) < (nl : Int) := by omega
        have hpp : (packW o == packW o) = true := by simp
        have hpp2 : (packW o != packW o) = false := by simp
        unfold FormV at HFo
        obtain ⟨T, v, hv⟩ := ordW_if o
        rw [hv] at hcl HBy HFo
        clear hv ho hok hccl hfl
        generalize packW o = pu at *
        generalize h0 ++ (L.take k).flatMap packW = tk at *
        generalize o.ns.map (Value.int .i64) = on at *
        generalize o.ts.map strV = ot at *
        generalize (o.k : Int) + 1 = ok1 at *
        generalize hon : on.length = onl at *
        generalize hot : ot.length = otl at *
        clear hon hot
        go_wp2_with fail
        refine (HBy.out _ (tab_same HT.out (K3.out.same L2.out))).mono ?_
        rintro e wA ⟨rfl, MA⟩
        have J1 := Lib.hid (L2.out.same MA)
        have hclA := (MA.cell hbl (fun q => q) (ol + k)).trans hcl
        have hblA : bl < wA.heap.size := Nat.lt_of_lt_of_le hbl MA.size
        clear MA HBy hcl L2
        go_wp2_with fail
        refine (HFo.out _).mono ?_
        rintro e wB ⟨a5, c5, a6, c6, rfl, r5, r6, MB⟩
        have J2 := Lib.hid (J1.out.same MB)
        have R5 := Lib.hid r5.row
        have R6 := Lib.hid r6.row
        clear MB HFo r5 r6 hclA J1
        go_wp2_with fail
        refine (HBr.out _ _ _ _ _ R5.out R6.out).mono ?_
        rintro e wC ⟨rfl, MC⟩
        have J3 := Lib.hid (J2.out.same MC)
        clear MC HBr R5 R6 J2
        go_wp2_with fail
        go_roundw
        case rel => exact ⟨k + 1, by omega, by go_num, by rw [E.out, ← str_app], J3.out⟩
        case measure => simp [intOf]; omega
      · obtain rfl : k = nl := by omega
        have e1 : h0 ++ (L.take k).flatMap packW = allW L := by rw [List.take_of_length_le (by rw [HNl.out]; exact Nat.le_refl _), ← EAl.out]
        rw [e1]
        have hbW := bytes_size (allW L)
        have K4 := Lib.hid (K3.out.same L2.out)
        have R2 := Lib.hid (R1.out.same L2.out)
        clear e1 EAl R1 L2 K3
        generalize allW L = W at *
        have hss : (sealL W == sealL W) = true := by simp
        have hss2 : (sealL W != sealL W) = false := by simp
        generalize sealL W = SW at *
        go_wp2_with fail
        refine (HAll1.out a1 k c1 HNl.out (by omega) _ (tab_same HT.out K4.out) R2.out).mono ?_
        rintro e w4 ⟨rfl, M4⟩
        have K5 := Lib.hid (K4.out.same M4)
        clear M4 HAll1 R2 K4
        go_wp2_with fail
        refine (HSe.out _).mono ?_
        rintro e w5 ⟨rfl, M5⟩
        have K6 := Lib.hid (K5.out.same M5)
        clear M5 HSe K5 HFL
        go_wp2_with fail
        refine (HRd.out _).mono ?_
        rintro e w6 ⟨rfl, M6⟩
        have K7 := Lib.hid (K6.out.same M6)
        clear M6 HRd K6
        unfold readV
        unfold ReadA at HRr
        cases hg : gOrd s with
        | none =>
          rw [hg] at HRr
          dsimp only at HRr ⊢
          go_wp2_with fail
          refine (HRr.out _).mono ?_
          rintro e w7 ⟨rfl, M7⟩
          have K8 := Lib.hid (K7.out.same M7)
          clear M7 HRr K7
          have K9 := Lib.hid (K8.out.alloc (.cells #[.int .i64 0, .slice none 0 0, .slice none 0 0] 32))
          go_wp2_with fail
          generalize w7.alloc _ = w8 at *
          clear K8
          refine wp_region_held_drew (S := fun _ => True) (by kernel_rfl) (by (try dsimp only); all_goals trivial) (fun hHeld => ?_)
          refine wpAnyH_take (i := 0) (v := ?_) rfl (by kernel_rfl) (by kernel_rfl) (by kernel_rfl) (fun _ _ _ h => h) (Or.inl ⟨by rfl, ?_⟩) (by assumption) ?_
          rotate_left
          · intro w hSw
            try dsimp only at hSw
            go_simp
            try with_reducible rfl
          try simp only [List.getElem_toArray, List.getElem_cons_succ, List.getElem_cons_zero, Act.put, List.setIfInBounds_toArray, List.set_cons_zero, List.set_cons_succ]
          refine wpAnyH_take (i := 1) (v := ?_) rfl (by kernel_rfl) (by kernel_rfl) (by kernel_rfl) (fun _ _ _ h => h) (Or.inl ⟨by rfl, ?_⟩) (by assumption) ?_
          rotate_left
          · intro w hSw
            try dsimp only at hSw
            go_simp
            try with_reducible rfl
          try simp only [List.getElem_toArray, List.getElem_cons_succ, List.getElem_cons_zero, Act.put, List.setIfInBounds_toArray, List.set_cons_zero, List.set_cons_succ]
          refine wpAnyH_take (i := 2) (v := ?_) rfl (by kernel_rfl) (by kernel_rfl) (by kernel_rfl) (fun _ _ _ h => h) (Or.inl ⟨by rfl, ?_⟩) (by assumption) ?_
          rotate_left
          · intro w hSw
            try dsimp only at hSw
            go_simp
            try with_reducible rfl
          try simp only [List.getElem_toArray, List.getElem_cons_succ, List.getElem_cons_zero, Act.put, List.setIfInBounds_toArray, List.set_cons_zero, List.set_cons_succ]
          refine wpAnyH_take (i := 3) (v := ?_) rfl (by kernel_rfl) (by kernel_rfl) (by kernel_rfl) (fun _ _ _ h => h) (Or.inl ⟨by rfl, ?_⟩) (by assumption) ?_
          rotate_left
          · intro w hSw
            try dsimp only at hSw
            go_simp
            try with_reducible rfl
          try simp only [List.getElem_toArray, List.getElem_cons_succ, List.getElem_cons_zero, Act.put, List.setIfInBounds_toArray, List.set_cons_zero, List.set_cons_succ]
          refine wpAnyH_take (i := 4) (v := ?_) rfl (by kernel_rfl) (by kernel_rfl) (by kernel_rfl) (fun _ _ _ h => h) (Or.inl ⟨by rfl, ?_⟩) (by assumption) ?_
          rotate_left
          · intro w hSw
            try dsimp only at hSw
            go_simp
            try with_reducible rfl
          try simp only [List.getElem_toArray, List.getElem_cons_succ, List.getElem_cons_zero, Act.put, List.setIfInBounds_toArray, List.set_cons_zero, List.set_cons_succ]
          refine wpAnyH_take (i := 5) (v := ?_) rfl (by kernel_rfl) (by kernel_rfl) (by kernel_rfl) (fun _ _ _ h => h) (Or.inl ⟨by rfl, ?_⟩) (by assumption) ?_
          rotate_left
          · intro w hSw
            try dsimp only at hSw
            go_simp
            try with_reducible rfl
          try simp only [List.getElem_toArray, List.getElem_cons_succ, List.getElem_cons_zero, Act.put, List.setIfInBounds_toArray, List.set_cons_zero, List.set_cons_succ]
          refine wpAnyH_take (i := 6) (v := ?_) rfl (by kernel_rfl) (by kernel_rfl) (by kernel_rfl) (fun _ _ _ h => h) (Or.inl ⟨by rfl, ?_⟩) (by assumption) ?_
          rotate_left
          · intro w hSw
            try dsimp only at hSw
            go_simp
            try with_reducible rfl
          try simp only [List.getElem_toArray, List.getElem_cons_succ, List.getElem_cons_zero, Act.put, List.setIfInBounds_toArray, List.set_cons_zero, List.set_cons_succ]
          refine wpAnyH_take (i := 7) (v := ?_) rfl (by kernel_rfl) (by kernel_rfl) (by kernel_rfl) (fun _ _ _ h => h) (Or.inl ⟨by rfl, ?_⟩) (by assumption) ?_
          rotate_left
          · intro w hSw
            try dsimp only at hSw
            go_simp
            try with_reducible rfl
          try simp only [List.getElem_toArray, List.getElem_cons_succ, List.getElem_cons_zero, Act.put, List.setIfInBounds_toArray, List.set_cons_zero, List.set_cons_succ]
          refine wpAnyH_take (i := 8) (v := ?_) rfl (by kernel_rfl) (by kernel_rfl) (by kernel_rfl) (fun _ _ _ h => h) (Or.inl ⟨by rfl, ?_⟩) (by assumption) ?_
          rotate_left
          · intro w hSw
            try dsimp only at hSw
            go_simp
            try with_reducible rfl
          try simp only [List.getElem_toArray, List.getElem_cons_succ, List.getElem_cons_zero, Act.put, List.setIfInBounds_toArray, List.set_cons_zero, List.set_cons_succ]
          refine wpAnyH_take (i := 9) (v := ?_) rfl (by kernel_rfl) (by kernel_rfl) (by kernel_rfl) (fun _ _ _ h => h) (Or.inl ⟨by rfl, ?_⟩) (by assumption) ?_
          rotate_left
          · intro w hSw
            try dsimp only at hSw
            go_simp
            try with_reducible rfl
          try simp only [List.getElem_toArray, List.getElem_cons_succ, List.getElem_cons_zero, Act.put, List.setIfInBounds_toArray, List.set_cons_zero, List.set_cons_succ]
          refine wpAnyH_take (i := 10) (v := ?_) rfl (by kernel_rfl) (by kernel_rfl) (by kernel_rfl) (fun _ _ _ h => h) (Or.inl ⟨by rfl, ?_⟩) (by assumption) ?_
          rotate_left
          · intro w hSw
            try dsimp only at hSw
            go_simp
            try with_reducible rfl
          try simp only [List.getElem_toArray, List.getElem_cons_succ, List.getElem_cons_zero, Act.put, List.setIfInBounds_toArray, List.set_cons_zero, List.set_cons_succ]
          refine wpAnyH_take (i := 11) (v := ?_) rfl (by kernel_rfl) (by kernel_rfl) (by kernel_rfl) (fun _ _ _ h => h) (Or.inl ⟨by rfl, ?_⟩) (by assumption) ?_
          rotate_left
          · intro w hSw
            try dsimp only at hSw
            go_simp
            try with_reducible rfl
          try simp only [List.getElem_toArray, List.getElem_cons_succ, List.getElem_cons_zero, Act.put, List.setIfInBounds_toArray, List.set_cons_zero, List.set_cons_succ]
          refine wpAnyH_take (i := 12) (v := ?_) rfl (by kernel_rfl) (by kernel_rfl) (by kernel_rfl) (fun _ _ _ h => h) (Or.inl ⟨by rfl, ?_⟩) (by assumption) ?_
          rotate_left
          · intro w hSw
            try dsimp only at hSw
            go_simp
            try with_reducible rfl
          try simp only [List.getElem_toArray, List.getElem_cons_succ, List.getElem_cons_zero, Act.put, List.setIfInBounds_toArray, List.set_cons_zero, List.set_cons_succ]
          refine wpAnyH_take (i := 13) (v := ?_) rfl (by kernel_rfl) (by kernel_rfl) (by kernel_rfl) (fun _ _ _ h => h) (Or.inl ⟨by rfl, ?_⟩) (by assumption) ?_
          rotate_left
          · intro w hSw
            try dsimp only at hSw
            go_simp
            try with_reducible rfl
          try simp only [List.getElem_toArray, List.getElem_cons_succ, List.getElem_cons_zero, Act.put, List.setIfInBounds_toArray, List.set_cons_zero, List.set_cons_succ]
          refine wpAnyH_take (i := 14) (v := ?_) rfl (by kernel_rfl) (by kernel_rfl) (by kernel_rfl) (fun _ _ _ h => h) (Or.inl ⟨by rfl, ?_⟩) (by assumption) ?_
          rotate_left
          · intro w hSw
            try dsimp only at hSw
            go_simp
            try with_reducible rfl
          try simp only [List.getElem_toArray, List.getElem_cons_succ, List.getElem_cons_zero, Act.put, List.setIfInBounds_toArray, List.set_cons_zero, List.set_cons_succ]
          refine wpAnyH_take (i := 15) (v := ?_) rfl (by kernel_rfl) (by kernel_rfl) (by kernel_rfl) (fun _ _ _ h => h) (Or.inl ⟨by rfl, ?_⟩) (by assumption) ?_
          rotate_left
          · intro w hSw
            try dsimp only at hSw
            go_simp
            try with_reducible rfl
          try simp only [List.getElem_toArray, List.getElem_cons_succ, List.getElem_cons_zero, Act.put, List.setIfInBounds_toArray, List.set_cons_zero, List.set_cons_succ]
          refine wpAnyH_take (i := 16) (v := ?_) rfl (by kernel_rfl) (by kernel_rfl) (by kernel_rfl) (fun _ _ _ h => h) (Or.inl ⟨by rfl, ?_⟩) (by assumption) ?_
          rotate_left
          · intro w hSw
            try dsimp only at hSw
            go_simp
            try with_reducible rfl
          try simp only [List.getElem_toArray, List.getElem_cons_succ, List.getElem_cons_zero, Act.put, List.setIfInBounds_toArray, List.set_cons_zero, List.set_cons_succ]
          refine wpAnyH_take (i := 17) (v := ?_) rfl (by kernel_rfl) (by kernel_rfl) (by kernel_rfl) (fun _ _ _ h => h) (Or.inl ⟨by rfl, ?_⟩) (by assumption) ?_
          rotate_left
          · intro w hSw
            try dsimp only at hSw
            go_simp
            try with_reducible rfl
          try simp only [List.getElem_toArray, List.getElem_cons_succ, List.getElem_cons_zero, Act.put, List.setIfInBounds_toArray, List.set_cons_zero, List.set_cons_succ]
          refine wpAnyH_take (i := 18) (v := ?_) rfl (by kernel_rfl) (by kernel_rfl) (by kernel_rfl) (fun _ _ _ h => h) (Or.inl ⟨by rfl, ?_⟩) (by assumption) ?_
          rotate_left
          · intro w hSw
            try dsimp only at hSw
            go_simp
            try with_reducible rfl
          try simp only [List.getElem_toArray, List.getElem_cons_succ, List.getElem_cons_zero, Act.put, List.setIfInBounds_toArray, List.set_cons_zero, List.set_cons_succ]
          refine wpAnyH_take (i := 19) (v := ?_) rfl (by kernel_rfl) (by kernel_rfl) (by kernel_rfl) (fun _ _ _ h => h) (Or.inl ⟨by rfl, ?_⟩) (by assumption) ?_
          rotate_left
          · intro w hSw
            try dsimp only at hSw
            go_simp
            try with_reducible rfl
          try simp only [List.getElem_toArray, List.getElem_cons_succ, List.getElem_cons_zero, Act.put, List.setIfInBounds_toArray, List.set_cons_zero, List.set_cons_succ]
          refine wpAnyH_take (i := 20) (v := ?_) rfl (by kernel_rfl) (by kernel_rfl) (by kernel_rfl) (fun _ _ _ h => h) (Or.inl ⟨by rfl, ?_⟩) (by assumption) ?_
          rotate_left
          · intro w hSw
            try dsimp only at hSw
            go_simp
            try with_reducible rfl
          try simp only [List.getElem_toArray, List.getElem_cons_succ, List.getElem_cons_zero, Act.put, List.setIfInBounds_toArray, List.set_cons_zero, List.set_cons_succ]
          refine wpAnyH_take (i := 21) (v := ?_) rfl (by kernel_rfl) (by kernel_rfl) (by kernel_rfl) (fun _ _ _ h => h) (Or.inl ⟨by rfl, ?_⟩) (by assumption) ?_
          rotate_left
          · intro w hSw
            try dsimp only at hSw
            go_simp
            try with_reducible rfl
          try simp only [List.getElem_toArray, List.getElem_cons_succ, List.getElem_cons_zero, Act.put, List.setIfInBounds_toArray, List.set_cons_zero, List.set_cons_succ]
          refine wpAnyH_take (i := 22) (v := ?_) rfl (by kernel_rfl) (by kernel_rfl) (by kernel_rfl) (fun _ _ _ h => h) (Or.inl ⟨by rfl, ?_⟩) (by assumption) ?_
          rotate_left
          · intro w hSw
            try dsimp only at hSw
            go_simp
            try with_reducible rfl
          try simp only [List.getElem_toArray, List.getElem_cons_succ, List.getElem_cons_zero, Act.put, List.setIfInBounds_toArray, List.set_cons_zero, List.set_cons_succ]
          refine wpAnyH_take (i := 23) (v := ?_) rfl (by kernel_rfl) (by kernel_rfl) (by kernel_rfl) (fun _ _ _ h => h) (Or.inl ⟨by rfl, ?_⟩) (by assumption) ?_
          rotate_left
          · intro w hSw
            try dsimp only at hSw
            go_simp
            try with_reducible rfl
          try simp only [List.getElem_toArray, List.getElem_cons_succ, List.getElem_cons_zero, Act.put, List.setIfInBounds_toArray, List.set_cons_zero, List.set_cons_succ]
          refine wpAnyH_take (i := 24) (v := ?_) rfl (by kernel_rfl) (by kernel_rfl) (by kernel_rfl) (fun _ _ _ h => h) (Or.inl ⟨by rfl, ?_⟩) (by assumption) ?_
          rotate_left
          · intro w hSw
            try dsimp only at hSw
            go_simp
            try with_reducible rfl
          try simp only [List.getElem_toArray, List.getElem_cons_succ, List.getElem_cons_zero, Act.put, List.setIfInBounds_toArray, List.set_cons_zero, List.set_cons_succ]
          refine wpAnyH_take (i := 25) (v := ?_) rfl (by kernel_rfl) (by kernel_rfl) (by kernel_rfl) (fun _ _ _ h => h) (Or.inl ⟨by rfl, ?_⟩) (by assumption) ?_
          rotate_left
          · intro w hSw
            try dsimp only at hSw
            go_simp
            try with_reducible rfl
          try simp only [List.getElem_toArray, List.getElem_cons_succ, List.getElem_cons_zero, Act.put, List.setIfInBounds_toArray, List.set_cons_zero, List.set_cons_succ]
          refine wpAnyH_take (i := 26) (v := undef) rfl (by kernel_rfl) (by kernel_rfl) (by kernel_rfl) (fun _ _ _ h => h) (Or.inr ⟨by rfl, rfl⟩) (by assumption) ?_
          try simp only [List.getElem_toArray, List.getElem_cons_succ, List.getElem_cons_zero, Act.put, List.setIfInBounds_toArray, List.set_cons_zero, List.set_cons_succ]
          refine wpAnyH_take (i := 27) (v := undef) rfl (by kernel_rfl) (by kernel_rfl) (by kernel_rfl) (fun _ _ _ h => h) (Or.inr ⟨by rfl, rfl⟩) (by assumption) ?_
          try simp only [List.getElem_toArray, List.getElem_cons_succ, List.getElem_cons_zero, Act.put, List.setIfInBounds_toArray, List.set_cons_zero, List.set_cons_succ]
          refine wpAnyH_take (i := 28) (v := undef) rfl (by kernel_rfl) (by kernel_rfl) (by kernel_rfl) (fun _ _ _ h => h) (Or.inr ⟨by rfl, rfl⟩) (by assumption) ?_
          try simp only [List.getElem_toArray, List.getElem_cons_succ, List.getElem_cons_zero, Act.put, List.setIfInBounds_toArray, List.set_cons_zero, List.set_cons_succ]
          refine wpAnyH_take (i := 29) (v := undef) rfl (by kernel_rfl) (by kernel_rfl) (by kernel_rfl) (fun _ _ _ h => h) (Or.inr ⟨by rfl, rfl⟩) (by assumption) ?_
          try simp only [List.getElem_toArray, List.getElem_cons_succ, List.getElem_cons_zero, Act.put, List.setIfInBounds_toArray, List.set_cons_zero, List.set_cons_succ]
          refine wpAnyH_take (i := 30) (v := undef) rfl (by kernel_rfl) (by kernel_rfl) (by kernel_rfl) (fun _ _ _ h => h) (Or.inr ⟨by rfl, rfl⟩) (by assumption) ?_
          try simp only [List.getElem_toArray, List.getElem_cons_succ, List.getElem_cons_zero, Act.put, List.setIfInBounds_toArray, List.set_cons_zero, List.set_cons_succ]
          refine wpAnyH_take (i := 31) (v := ?_) rfl (by kernel_rfl) (by kernel_rfl) (by kernel_rfl) (fun _ _ _ h => h) (Or.inl ⟨by rfl, ?_⟩) (by assumption) ?_
          rotate_left
          · intro w hSw
            try dsimp only at hSw
            go_simp
            try with_reducible rfl
          try simp only [List.getElem_toArray, List.getElem_cons_succ, List.getElem_cons_zero, Act.put, List.setIfInBounds_toArray, List.set_cons_zero, List.set_cons_succ]
          refine wpAnyH_take (i := 32) (v := ?_) rfl (by kernel_rfl) (by kernel_rfl) (by kernel_rfl) (fun _ _ _ h => h) (Or.inl ⟨by rfl, ?_⟩) (by assumption) ?_
          rotate_left
          · intro w hSw
            try dsimp only at hSw
            go_simp
            try with_reducible rfl
          try simp only [List.getElem_toArray, List.getElem_cons_succ, List.getElem_cons_zero, Act.put, List.setIfInBounds_toArray, List.set_cons_zero, List.set_cons_succ]
          refine wpAnyH_done (by kernel_rfl) ?_ _
          have Ka := Lib.hid (K9.out.drew)
          clear K9
          go_wp2_with fail
          cases hpk : parseK s with
          | none =>
            unfold ParseR at HPa
            unfold ParseA at HPr
            rw [hpk] at HPa HPr
            dsimp only at HPa HPr
            clear hpk
            refine (HPa.out _).mono ?_
            rintro e wP ⟨rfl, MP⟩
            have Kb := Lib.hid (Ka.out.same MP)
            clear MP HPa Ka
            go_wp2_with fail
            refine (HPr.out _).mono ?_
            rintro e wQ ⟨⟨vq, rfl⟩, MQ⟩
            have Kc := Lib.hid (Kb.out.same MQ)
            clear MQ HPr Kb
            have ht0 := m_t0 z
            have ht1 := m_t1 z
            obtain ⟨nn, hnn⟩ := Int.eq_ofNat_of_zero_le ht0
            rw [hnn] at ht0 ht1
            have hnn2 : nn ≤ 1000 := by omega
            obtain ⟨wM, hmk, hBM, hMM⟩ := make_u8 wQ nn hnn2
            have kc := run_convert_bytes_arg (P := Tryz.prog) wM 64 5 Tryz.underlying64 Tryz.underlying5 wQ.heap.size 0 (500 + nn) (500 + nn) ((List.replicate (500 + nn) (0 : UInt8)).map fun b => (b.toNat : Int)) (by rw [List.length_map, List.length_replicate]) (fun i hi => by
              rw [Nat.zero_add]
              refine (hBM.cell i (by rw [List.length_replicate]; exact hi)).trans ?_
              have hi2 : i < (List.replicate (500 + nn) (0 : UInt8)).length := by rw [List.length_replicate]; exact hi
              rw [List.getD_eq_getElem?_getD, List.getD_eq_getElem?_getD, List.getElem?_map, List.getElem?_eq_getElem hi2]; rfl) 9 Tryz.underlying9
            rw [strOfNums_bytes] at kc
            have Kd := Lib.hid (Kc.out.same hMM)
            have hbz := bytes_size (List.replicate (500 + nn) (0 : UInt8))
            rw [List.length_replicate] at hbz
            have HOV := Lib.hid (oZ_val (500 + nn))
            have HOF := Lib.hid (oZ_form (500 + nn))
            have HOT := Lib.hid (oZ_fits (500 + nn))
            clear hMM hBM
            generalize List.replicate (500 + nn) (0 : UInt8) = zs at *
            have HMP := Lib.hid (show [oF, oZ (500 + nn)].map ordW = [.iface 68 (.agg #[]), .iface 66 (.agg #[.int .i64 0, .int .i64 0, .string ⟨zs.toArray⟩])] by rw [List.map_cons, List.map_cons, oF_val, HOV.out]; rfl)
            go_wp2_with fail
            have Ke := Lib.hid (Kd.out.alloc (.cells #[.int .i64 0, .int .i64 0, .string ⟨zs.toArray⟩] 66))
            have BZ := Lib.hid (Blk.new wM #[.int .i64 0, .int .i64 0, .string ⟨zs.toArray⟩] 66)
            generalize wM.alloc _ = wN at *
            generalize hgz : wM.heap.size = gz at *
            clear hgz kc hmk Kd
            by_cases hfit : 500 + nn ≤ 512
            · have hft : (oZ (500 + nn)).fits = true := by rw [HOT.out]; exact decide_eq_true hfit
              have hfo : ∀ o ∈ [oF, oZ (500 + nn)], o.form ∧ o.fits = true := by
                intro o ho
                simp at ho
                rcases ho with rfl | rfl
                · exact ⟨oF_form, rfl⟩
                · exact ⟨HOF.out, hft⟩
              have HBz := Lib.hid (bytes_ok (oZ (500 + nn)) HOF.out hft)
              have HAz := Lib.hid (fun a c w hT hr => all_ow [oF, oZ (500 + nn)] hfo a 2 c rfl (by decide) w hT hr)
              rw [HOV.out] at HBz
              rw [HMP.out] at HAz
              have d5 : decide ((500 : Int) + (nn : Int) ≤ 512) = true := decide_eq_true (by omega)
              clear hft hfo hfit
              generalize packW (oZ (500 + nn)) = pz at *
              generalize sealL (allW [oF, oZ (500 + nn)]) = az at *
              refine (HBz.out _ (tab_same HT.out Ke.out)).mono ?_
              rintro e wX ⟨rfl, MX⟩
              have Kf := Lib.hid (Ke.out.same MX)
              have BZ2 := Lib.hid (BZ.out.mod MX (fun q => q))
              have hbz2 := BZ2.out.cell
              clear MX HBz Ke BZ
              go_wp2_with fail
              refine (HAz.out _ _ _ (tab_same HT.out (Kf.out.alloc _)) (row2_new wX _ _ 24)).mono ?_
              rintro e wY ⟨rfl, MY⟩
              have Kg := Lib.hid ((Kf.out.alloc (.cells #[.iface 68 (.agg #[]), .iface 66 (.agg #[.int .i64 0, .int .i64 0, .string ⟨zs.toArray⟩])] 24)).same MY)
              have hbz3 := ((BZ2.out.alloc (.cells #[.iface 68 (.agg #[]), .iface 66 (.agg #[.int .i64 0, .int .i64 0, .string ⟨zs.toArray⟩])] 24)).mod MY (fun q => q)).cell
              clear MY HAz Kf hbz2
              go_wp2
              exact HR.out _ _ ⟨rfl, Kg.out⟩
            · have hft : (oZ (500 + nn)).fits = false := by rw [HOT.out]; exact decide_eq_false hfit
              have hfo : ∀ o ∈ [oF, oZ (500 + nn)], o.form := by
                intro o ho
                simp at ho
                rcases ho with rfl | rfl
                · exact oF_form
                · exact HOF.out
              have HBz := Lib.hid (bytes_bad (oZ (500 + nn)) HOF.out hft)
              have HAz := Lib.hid (fun a c w hT hr => all_mix [oF, oZ (500 + nn)] hfo ⟨oZ (500 + nn), by simp, hft⟩ a 2 c rfl (by decide) w hT hr)
              rw [HOV.out] at HBz
              rw [HMP.out] at HAz
              have d5 : decide ((500 : Int) + (nn : Int) ≤ 512) = false := decide_eq_false (by omega)
              clear hft hfo hfit
              refine (HBz.out _).mono ?_
              rintro e wX ⟨rfl, MX⟩
              have Kf := Lib.hid (Ke.out.same MX)
              have BZ2 := Lib.hid (BZ.out.mod MX (fun q => q))
              have hbz2 := BZ2.out.cell
              clear MX HBz Ke BZ
              go_wp2_with fail
              refine (HAz.out _ _ _ (tab_same HT.out (Kf.out.alloc _)) (row2_new wX _ _ 24)).mono ?_
              rintro e wY ⟨rfl, MY⟩
              have Kg := Lib.hid ((Kf.out.alloc (.cells #[.iface 68 (.agg #[]), .iface 66 (.agg #[.int .i64 0, .int .i64 0, .string ⟨zs.toArray⟩])] 24)).same MY)
              have hbz3 := ((BZ2.out.alloc (.cells #[.iface 68 (.agg #[]), .iface 66 (.agg #[.int .i64 0, .int .i64 0, .string ⟨zs.toArray⟩])] 24)).mod MY (fun q => q)).cell
              clear MY HAz Kf hbz2
              go_wp2
              exact HR.out _ _ ⟨rfl, Kg.out⟩
          | some M =>
            unfold ParseR at HPa
            unfold ParseA at HPr
            rw [hpk] at HPa HPr
            dsimp only at HPa HPr
            have hMf := parseK_form hpk
            clear hpk
            obtain ⟨ml, hml⟩ : ∃ ml, M.length = ml := ⟨_, rfl⟩
            rw [hml] at HPa HPr
            have HMl := Lib.hid hml
            have hml4 : ml ≤ 400 := by rw [← hml]; exact hMf.1
            have HMF := Lib.hid hMf.2
            clear hml hMf
            refine (HPa.out _).mono ?_
            rintro e wP ⟨⟨a8, c8, rfl, r8⟩, MP⟩
            have Kb := Lib.hid (Ka.out.same MP)
            have R8a := Lib.hid r8
            clear MP HPa Ka r8
            go_wp2_with fail
            refine (HPr.out _).mono ?_
            rintro e wQ ⟨⟨a9, c9, rfl, r9⟩, MQ⟩
            have Kc := Lib.hid (Kb.out.same MQ)
            have R8 := Lib.hid (R8a.out.same MQ)
            have R9 := Lib.hid r9
            clear MQ HPr Kb R8a r9
            go_wp2_with fail
            go_loopw [25] (fun i wr => ∃ q : Nat, q ≤ ml ∧ i = .int .i64 (q : Int) ∧ Same wQ wr) (fun i _ => ml - (intOf i).toNat)
            case atStart => exact ⟨0, by omega, rfl, Mod.refl _ _⟩
            case round =>
              obtain ⟨q, hq, rfl, hM⟩ := hrel
              have L2 := Lib.hid hM
              have hszr := hM.size
              by_cases hlt : q < ml
              · obtain ⟨x, hx⟩ : ∃ x, M[q]? = some x := ⟨_, List.getElem?_eq_getElem (by rw [HMl.out]; exact hlt)⟩
                have hok := HMF.out x (List.mem_of_getElem? hx)
                obtain ⟨b8, o8, rfl, hb80, hc8⟩ := R8.out (by rw [List.length_map, HMl.out]; omega)
                obtain ⟨b9, o9, rfl, hb90, hc9⟩ := R9.out (by rw [HMl.out]; omega)
                obtain ⟨a5, c5, a6, c6, e0, e1, e2, r5, r6⟩ := hc9 q x hx
                rw [Nat.mul_comm] at e0 e1 e2
                have hcm := (hM.cell hb80 (fun q => q) (o8 + q)).trans (hc8 q (ordW x) (by rw [List.getElem?_map, hx]; rfl))
                have f0 := (hM.cell hb90 (fun q => q) (o9 + q * 3)).trans e0
                have f1 := (hM.cell hb90 (fun q => q) (o9 + q * 3 + 1)).trans e1
                have f2 := (hM.cell hb90 (fun q => q) (o9 + q * 3 + 2)).trans e2
                have hb8 : b8 < wr.heap.size := by omega
                have hb9 : b9 < wr.heap.size := by omega
                have R5 := Lib.hid (r5.row.same hM)
                have R6 := Lib.hid (r6.row.same hM)
                have HFo := Lib.hid (form38_any x hok.1 hok.2)
                have HSm := Lib.hid (same_mix x hok.1)
                have hk1 : (0 : Int) ≤ (q : Int) := by omega
                have hk2 : (q : Int) < (ml : Int) := by omega
                unfold FormV at HFo
                obtain ⟨T9, v9, hv⟩ := ordW_if x
                rw [hv] at hcm HFo
                clear hv hx hok hc8 hc9 e0 e1 e2 r5 r6 hM
                generalize x.ns.map (Value.int .i64) = on at *
                generalize x.ts.map strV = ot at *
                generalize (x.k : Int) + 1 = ok1 at *
                generalize hon : on.length = onl at *
                generalize hot : ot.length = otl at *
                generalize x.ns.length = onm at *
                generalize x.ts.length = otm at *
                clear hon hot
                go_wp2_with fail
                refine wp_region_held_drew (S := fun w' => Same wr w') (by kernel_rfl) (by (try dsimp only); exact (Mod.refl _ _).drew) (fun hHeld => ?_)
                refine wpAnyH_take (i := 0) (v := ?_) rfl (by kernel_rfl) (by kernel_rfl) (by kernel_rfl) (fun _ _ _ h => h) (Or.inl ⟨by rfl, ?_⟩) (by assumption) ?_
                rotate_left
                · intro w hSw
                  try dsimp only at hSw
                  go_simp
                  try with_reducible rfl
                try simp only [List.getElem_toArray, List.getElem_cons_succ, List.getElem_cons_zero, Act.put, List.setIfInBounds_toArray, List.set_cons_zero, List.set_cons_succ]
                refine wpAnyH_take (i := 1) (v := ?_) rfl (by kernel_rfl) (by kernel_rfl) (by kernel_rfl) (fun _ _ _ h => h) (Or.inl ⟨by rfl, ?_⟩) (by assumption) ?_
                rotate_left
                · intro w hSw
                  try dsimp only at hSw
                  go_simp
                  try with_reducible rfl
                try simp only [List.getElem_toArray, List.getElem_cons_succ, List.getElem_cons_zero, Act.put, List.setIfInBounds_toArray, List.set_cons_zero, List.set_cons_succ]
                refine wpAnyH_take (i := 2) (v := ?_) rfl (by kernel_rfl) (by kernel_rfl) (by kernel_rfl) (fun _ _ _ h => h) (Or.inl ⟨by rfl, ?_⟩) (by assumption) ?_
                rotate_left
                · intro w hSw
                  try dsimp only at hSw
                  go_simp
                  try with_reducible rfl
                try simp only [List.getElem_toArray, List.getElem_cons_succ, List.getElem_cons_zero, Act.put, List.setIfInBounds_toArray, List.set_cons_zero, List.set_cons_succ]
                refine wpAnyH_take (i := 3) (v := ?_) rfl (by kernel_rfl) (by kernel_rfl) (by kernel_rfl) (fun _ _ _ h => h) (Or.inl ⟨by rfl, ?_⟩) (by assumption) ?_
                rotate_left
                · intro w hSw
                  try dsimp only at hSw
                  have g1 := (hSw.cell hb8 (fun q => q) (o8 + q)).trans hcm
                  go_simp
                  try with_reducible rfl
                try simp only [List.getElem_toArray, List.getElem_cons_succ, List.getElem_cons_zero, Act.put, List.setIfInBounds_toArray, List.set_cons_zero, List.set_cons_succ]
                refine wpAnyH_take (i := 5) (v := ?_) rfl (by kernel_rfl) (by kernel_rfl) (by kernel_rfl) (fun _ _ _ h => h) (Or.inl ⟨by rfl, ?_⟩) (by assumption) ?_
                rotate_left
                · intro w hSw
                  try dsimp only at hSw
                  go_simp
                  try with_reducible rfl
                try simp only [List.getElem_toArray, List.getElem_cons_succ, List.getElem_cons_zero, Act.put, List.setIfInBounds_toArray, List.set_cons_zero, List.set_cons_succ]
                refine wpAnyH_take (i := 6) (v := ?_) rfl (by kernel_rfl) (by kernel_rfl) (by kernel_rfl) (fun _ _ _ h => h) (Or.inl ⟨by rfl, ?_⟩) (by assumption) ?_
                rotate_left
                · intro w hSw
                  try dsimp only at hSw
                  go_simp
                  try with_reducible rfl
                try simp only [List.getElem_toArray, List.getElem_cons_succ, List.getElem_cons_zero, Act.put, List.setIfInBounds_toArray, List.set_cons_zero, List.set_cons_succ]
                refine wpAnyH_take (i := 7) (v := ?_) rfl (by kernel_rfl) (by kernel_rfl) (by kernel_rfl) (fun _ _ _ h => h) (Or.inl ⟨by rfl, ?_⟩) (by assumption) ?_
                rotate_left
                · intro w hSw
                  try dsimp only at hSw
                  go_simp
                  try with_reducible rfl
                try simp only [List.getElem_toArray, List.getElem_cons_succ, List.getElem_cons_zero, Act.put, List.setIfInBounds_toArray, List.set_cons_zero, List.set_cons_succ]
                refine wpAnyH_take (i := 8) (v := ?_) rfl (by kernel_rfl) (by kernel_rfl) (by kernel_rfl) (fun _ _ _ h => h) (Or.inl ⟨by rfl, ?_⟩) (by assumption) ?_
                rotate_left
                · intro w hSw
                  try dsimp only at hSw
                  have g1 := (hSw.cell hb9 (fun q => q) (o9 + q * 3)).trans f0
                  have g2 := (hSw.cell hb9 (fun q => q) (o9 + q * 3 + 1)).trans f1
                  have g3 := (hSw.cell hb9 (fun q => q) (o9 + q * 3 + 2)).trans f2
                  go_simp
                  try with_reducible rfl
                try simp only [List.getElem_toArray, List.getElem_cons_succ, List.getElem_cons_zero, Act.put, List.setIfInBounds_toArray, List.set_cons_zero, List.set_cons_succ]
                refine wpAnyH_ready (rs := [4]) (by kernel_rfl) (by simp) ?_
                refine AllReadyH.cons rfl (fun Kc hKc => ?_) AllReadyH.nil
                go_simp
                refine (HFo.out _).mono ?_
                rintro e wA ⟨a3, c3, b3, d3, rfl, r3, r4, MA⟩
                have AA := Lib.hid ((Mod.refl (fun _ => False) wr).drew.same MA)
                have R5A := Lib.hid (R5.out.same AA.out)
                have R6A := Lib.hid (R6.out.same AA.out)
                have R3A := Lib.hid r3.row
                have R4A := Lib.hid r4.row
                clear MA r3 r4
                go_wp2_with fail
                refine hKc.out _ _ (by (try dsimp only); exact AA.out) (fun hHeld => ?_)
                clear hKc Kc
                try simp only [List.getElem_toArray, List.getElem_cons_succ, List.getElem_cons_zero, Act.put, List.setIfInBounds_toArray, List.set_cons_zero, List.set_cons_succ]
                refine wpAnyH_ready (rs := [9]) (by kernel_rfl) (by simp) ?_
                refine AllReadyH.cons rfl (fun Kc hKc => ?_) AllReadyH.nil
                go_simp
                refine (HSm.out _ _ _ _ _ _ _ _ _ R3A.out R5A.out R4A.out R6A.out).mono ?_
                rintro e wB ⟨rfl, MB⟩
                have AB := Lib.hid (AA.out.same MB)
                clear MB
                go_wp2_with fail
                refine hKc.out _ _ (by (try dsimp only); exact AB.out) (fun hHeld => ?_)
                clear hKc Kc
                try simp only [List.getElem_toArray, List.getElem_cons_succ, List.getElem_cons_zero, Act.put, List.setIfInBounds_toArray, List.set_cons_zero, List.set_cons_succ]
                refine wpAnyH_take (i := 10) (v := ?_) rfl (by kernel_rfl) (by kernel_rfl) (by kernel_rfl) (fun _ _ _ h => h) (Or.inl ⟨by rfl, ?_⟩) (by assumption) ?_
                rotate_left
                · intro w hSw
                  try dsimp only at hSw
                  go_simp
                  try with_reducible rfl
                try simp only [List.getElem_toArray, List.getElem_cons_succ, List.getElem_cons_zero, Act.put, List.setIfInBounds_toArray, List.set_cons_zero, List.set_cons_succ]
                refine wpAnyH_done (by kernel_rfl) ?_ _
                go_wp2_with fail
                go_roundw
                case rel => exact ⟨q + 1, by omega, by go_num, L2.out.same AB.out⟩
                case measure => simp [intOf]; omega
              · obtain rfl : q = ml := by omega
                have Kc2 := Lib.hid (Kc.out.same L2.out)
                clear Kc R8 R9 L2 hM
                have ht0 := m_t0 z
                have ht1 := m_t1 z
                obtain ⟨nn, hnn⟩ := Int.eq_ofNat_of_zero_le ht0
                rw [hnn] at ht0 ht1
                have hnn2 : nn ≤ 1000 := by omega
                obtain ⟨wM, hmk, hBM, hMM⟩ := make_u8 wr nn hnn2
                have kc := run_convert_bytes_arg (P := Tryz.prog) wM 64 5 Tryz.underlying64 Tryz.underlying5 wr.heap.size 0 (500 + nn) (500 + nn) ((List.replicate (500 + nn) (0 : UInt8)).map fun b => (b.toNat : Int)) (by rw [List.length_map, List.length_replicate]) (fun i hi => by
                  rw [Nat.zero_add]
                  refine (hBM.cell i (by rw [List.length_replicate]; exact hi)).trans ?_
                  have hi2 : i < (List.replicate (500 + nn) (0 : UInt8)).length := by rw [List.length_replicate]; exact hi
                  rw [List.getD_eq_getElem?_getD, List.getD_eq_getElem?_getD, List.getElem?_map, List.getElem?_eq_getElem hi2]; rfl) 9 Tryz.underlying9
                rw [strOfNums_bytes] at kc
                have Kd := Lib.hid (Kc2.out.same hMM)
                have hbz := bytes_size (List.replicate (500 + nn) (0 : UInt8))
                rw [List.length_replicate] at hbz
                have HOV := Lib.hid (oZ_val (500 + nn))
                have HOF := Lib.hid (oZ_form (500 + nn))
                have HOT := Lib.hid (oZ_fits (500 + nn))
                clear hMM hBM
                generalize List.replicate (500 + nn) (0 : UInt8) = zs at *
                have HMP := Lib.hid (show [oF, oZ (500 + nn)].map ordW = [.iface 68 (.agg #[]), .iface 66 (.agg #[.int .i64 0, .int .i64 0, .string ⟨zs.toArray⟩])] by rw [List.map_cons, List.map_cons, oF_val, HOV.out]; rfl)
                go_wp2_with fail
                have Ke := Lib.hid (Kd.out.alloc (.cells #[.int .i64 0, .int .i64 0, .string ⟨zs.toArray⟩] 66))
                have BZ := Lib.hid (Blk.new wM #[.int .i64 0, .int .i64 0, .string ⟨zs.toArray⟩] 66)
                generalize wM.alloc _ = wN at *
                generalize hgz : wM.heap.size = gz at *
                clear hgz kc hmk Kd
                by_cases hfit : 500 + nn ≤ 512
                · have hft : (oZ (500 + nn)).fits = true := by rw [HOT.out]; exact decide_eq_true hfit
                  have hfo : ∀ o ∈ [oF, oZ (500 + nn)], o.form ∧ o.fits = true := by
                    intro o ho
                    simp at ho
                    rcases ho with rfl | rfl
                    · exact ⟨oF_form, rfl⟩
                    · exact ⟨HOF.out, hft⟩
                  have HBz := Lib.hid (bytes_ok (oZ (500 + nn)) HOF.out hft)
                  have HAz := Lib.hid (fun a c w hT hr => all_ow [oF, oZ (500 + nn)] hfo a 2 c rfl (by decide) w hT hr)
                  rw [HOV.out] at HBz
                  rw [HMP.out] at HAz
                  have d5 : decide ((500 : Int) + (nn : Int) ≤ 512) = true := decide_eq_true (by omega)
                  clear hft hfo hfit
                  generalize packW (oZ (500 + nn)) = pz at *
                  generalize sealL (allW [oF, oZ (500 + nn)]) = az at *
                  refine (HBz.out _ (tab_same HT.out Ke.out)).mono ?_
                  rintro e wX ⟨rfl, MX⟩
                  have Kf := Lib.hid (Ke.out.same MX)
                  have BZ2 := Lib.hid (BZ.out.mod MX (fun q => q))
                  have hbz2 := BZ2.out.cell
                  clear MX HBz Ke BZ
                  go_wp2_with fail
                  refine (HAz.out _ _ _ (tab_same HT.out (Kf.out.alloc _)) (row2_new wX _ _ 24)).mono ?_
                  rintro e wY ⟨rfl, MY⟩
                  have Kg := Lib.hid ((Kf.out.alloc (.cells #[.iface 68 (.agg #[]), .iface 66 (.agg #[.int .i64 0, .int .i64 0, .string ⟨zs.toArray⟩])] 24)).same MY)
                  have hbz3 := ((BZ2.out.alloc (.cells #[.iface 68 (.agg #[]), .iface 66 (.agg #[.int .i64 0, .int .i64 0, .string ⟨zs.toArray⟩])] 24)).mod MY (fun q => q)).cell
                  clear MY HAz Kf hbz2
                  go_wp2
                  exact HR.out _ _ ⟨rfl, Kg.out⟩
                · have hft : (oZ (500 + nn)).fits = false := by rw [HOT.out]; exact decide_eq_false hfit
                  have hfo : ∀ o ∈ [oF, oZ (500 + nn)], o.form := by
                    intro o ho
                    simp at ho
                    rcases ho with rfl | rfl
                    · exact oF_form
                    · exact HOF.out
                  have HBz := Lib.hid (bytes_bad (oZ (500 + nn)) HOF.out hft)
                  have HAz := Lib.hid (fun a c w hT hr => all_mix [oF, oZ (500 + nn)] hfo ⟨oZ (500 + nn), by simp, hft⟩ a 2 c rfl (by decide) w hT hr)
                  rw [HOV.out] at HBz
                  rw [HMP.out] at HAz
                  have d5 : decide ((500 : Int) + (nn : Int) ≤ 512) = false := decide_eq_false (by omega)
                  clear hft hfo hfit
                  refine (HBz.out _).mono ?_
                  rintro e wX ⟨rfl, MX⟩
                  have Kf := Lib.hid (Ke.out.same MX)
                  have BZ2 := Lib.hid (BZ.out.mod MX (fun q => q))
                  have hbz2 := BZ2.out.cell
                  clear MX HBz Ke BZ
                  go_wp2_with fail
                  refine (HAz.out _ _ _ (tab_same HT.out (Kf.out.alloc _)) (row2_new wX _ _ 24)).mono ?_
                  rintro e wY ⟨rfl, MY⟩
                  have Kg := Lib.hid ((Kf.out.alloc (.cells #[.iface 68 (.agg #[]), .iface 66 (.agg #[.int .i64 0, .int .i64 0, .string ⟨zs.toArray⟩])] 24)).same MY)
                  have hbz3 := ((BZ2.out.alloc (.cells #[.iface 68 (.agg #[]), .iface 66 (.agg #[.int .i64 0, .int .i64 0, .string ⟨zs.toArray⟩])] 24)).mod MY (fun q => q)).cell
                  clear MY HAz Kf hbz2
                  go_wp2
                  exact HR.out _ _ ⟨rfl, Kg.out⟩
        | some p =>
          obtain ⟨o, r⟩ := p
          rw [hg] at HRr
          dsimp only at HRr ⊢
          obtain ⟨kk, hk0, _, _, hlen⟩ := gOrd_suf hg
          obtain ⟨fo, tof⟩ := gOrd_form hg
          rw [hlen] at HRr ⊢
          have HFo := Lib.hid (form38_any o fo tof)
          have HSm := Lib.hid (same_mix o fo)
          have q1 : ((kk : Int) == 0) = false := by rw [beq_eq_false_iff_ne]; omega
          have q2 : decide ((0 : Int) < (kk : Int)) = true := decide_eq_true (by omega)
          have q3 : decide (0 < kk) = true := decide_eq_true hk0
          have q4 : (kk == 0) = false := by rw [beq_eq_false_iff_ne]; omega
          unfold FormV at HFo
          obtain ⟨T, v, hv⟩ := ordW_if o
          rw [hv] at HFo ⊢
          clear hg hlen fo tof hv
          generalize o.ns.map (Value.int .i64) = on at *
          generalize o.ts.map strV = ot at *
          generalize (o.k : Int) + 1 = ok1 at *
          generalize hon : on.length = onl at *
          generalize hot : ot.length = otl at *
          generalize o.ns.length = onm at *
          generalize o.ts.length = otm at *
          clear hon hot
          go_wp2_with fail
          refine (HRr.out _).mono ?_
          rintro e w7 ⟨⟨a5, c5, a6, c6, rfl, r5, r6⟩, M7⟩
          have K8 := Lib.hid (K7.out.same M7)
          have R5a := Lib.hid r5.row
          have R6a := Lib.hid r6.row
          clear M7 HRr K7 r5 r6
          go_wp2_with fail
          have MN : Same w7 (w7.alloc (.cells #[.int .i64 ok1, .slice a5 onm c5, .slice a6 otm c6] 32)) := (Mod.refl _ _).alloc _
          have K9 := Lib.hid (K8.out.same MN)
          have BQ := Lib.hid (Blk.new w7 #[.int .i64 ok1, .slice a5 onm c5, .slice a6 otm c6] 32)
          have R5 := Lib.hid (R5a.out.same MN)
          have R6 := Lib.hid (R6a.out.same MN)
          clear MN K8 R5a R6a
          generalize w7.alloc _ = w8 at *
          generalize hY : w7.heap.size = Y at *
          have hbq := BQ.out.cell
          refine wp_region_held_drew (S := fun w' => ∀ i, w'.cell? ⟨Y, i, none⟩ = #[.int .i64 ok1, .slice a5 onm c5, .slice a6 otm c6][i]?) (by kernel_rfl) (by (try dsimp only); first | exact hbq | exact hbA | exact hbB) (fun hHeld => ?_)
          refine wpAnyH_take (i := 0) (v := ?_) rfl (by kernel_rfl) (by kernel_rfl) (by kernel_rfl) (fun _ _ _ h => h) (Or.inl ⟨by rfl, ?_⟩) (by assumption) ?_
          rotate_left
          · intro w hSw
            try dsimp only at hSw
            go_simp
            try with_reducible rfl
          try simp only [List.getElem_toArray, List.getElem_cons_succ, List.getElem_cons_zero, Act.put, List.setIfInBounds_toArray, List.set_cons_zero, List.set_cons_succ]
          refine wpAnyH_take (i := 1) (v := ?_) rfl (by kernel_rfl) (by kernel_rfl) (by kernel_rfl) (fun _ _ _ h => h) (Or.inl ⟨by rfl, ?_⟩) (by assumption) ?_
          rotate_left
          · intro w hSw
            try dsimp only at hSw
            go_simp
            try with_reducible rfl
          try simp only [List.getElem_toArray, List.getElem_cons_succ, List.getElem_cons_zero, Act.put, List.setIfInBounds_toArray, List.set_cons_zero, List.set_cons_succ]
          refine wpAnyH_take (i := 2) (v := ?_) rfl (by kernel_rfl) (by kernel_rfl) (by kernel_rfl) (fun _ _ _ h => h) (Or.inl ⟨by rfl, ?_⟩) (by assumption) ?_
          rotate_left
          · intro w hSw
            try dsimp only at hSw
            go_simp
            try with_reducible rfl
          try simp only [List.getElem_toArray, List.getElem_cons_succ, List.getElem_cons_zero, Act.put, List.setIfInBounds_toArray, List.set_cons_zero, List.set_cons_succ]
          refine wpAnyH_take (i := 3) (v := ?_) rfl (by kernel_rfl) (by kernel_rfl) (by kernel_rfl) (fun _ _ _ h => h) (Or.inl ⟨by rfl, ?_⟩) (by assumption) ?_
          rotate_left
          · intro w hSw
            try dsimp only at hSw
            go_simp
            try with_reducible rfl
          try simp only [List.getElem_toArray, List.getElem_cons_succ, List.getElem_cons_zero, Act.put, List.setIfInBounds_toArray, List.set_cons_zero, List.set_cons_succ]
          refine wpAnyH_take (i := 4) (v := ?_) rfl (by kernel_rfl) (by kernel_rfl) (by kernel_rfl) (fun _ _ _ h => h) (Or.inl ⟨by rfl, ?_⟩) (by assumption) ?_
          rotate_left
          · intro w hSw
            try dsimp only at hSw
            go_simp
            try with_reducible rfl
          try simp only [List.getElem_toArray, List.getElem_cons_succ, List.getElem_cons_zero, Act.put, List.setIfInBounds_toArray, List.set_cons_zero, List.set_cons_succ]
          refine wpAnyH_take (i := 5) (v := ?_) rfl (by kernel_rfl) (by kernel_rfl) (by kernel_rfl) (fun _ _ _ h => h) (Or.inl ⟨by rfl, ?_⟩) (by assumption) ?_
          rotate_left
          · intro w hSw
            try dsimp only at hSw
            go_simp
            try with_reducible rfl
          try simp only [List.getElem_toArray, List.getElem_cons_succ, List.getElem_cons_zero, Act.put, List.setIfInBounds_toArray, List.set_cons_zero, List.set_cons_succ]
          refine wpAnyH_take (i := 6) (v := ?_) rfl (by kernel_rfl) (by kernel_rfl) (by kernel_rfl) (fun _ _ _ h => h) (Or.inl ⟨by rfl, ?_⟩) (by assumption) ?_
          rotate_left
          · intro w hSw
            try dsimp only at hSw
            go_simp
            try with_reducible rfl
          try simp only [List.getElem_toArray, List.getElem_cons_succ, List.getElem_cons_zero, Act.put, List.setIfInBounds_toArray, List.set_cons_zero, List.set_cons_succ]
          refine wpAnyH_take (i := 7) (v := ?_) rfl (by kernel_rfl) (by kernel_rfl) (by kernel_rfl) (fun _ _ _ h => h) (Or.inl ⟨by rfl, ?_⟩) (by assumption) ?_
          rotate_left
          · intro w hSw
            try dsimp only at hSw
            go_simp
            try with_reducible rfl
          try simp only [List.getElem_toArray, List.getElem_cons_succ, List.getElem_cons_zero, Act.put, List.setIfInBounds_toArray, List.set_cons_zero, List.set_cons_succ]
          refine wpAnyH_take (i := 8) (v := ?_) rfl (by kernel_rfl) (by kernel_rfl) (by kernel_rfl) (fun _ _ _ h => h) (Or.inl ⟨by rfl, ?_⟩) (by assumption) ?_
          rotate_left
          · intro w hSw
            try dsimp only at hSw
            go_simp
            try with_reducible rfl
          try simp only [List.getElem_toArray, List.getElem_cons_succ, List.getElem_cons_zero, Act.put, List.setIfInBounds_toArray, List.set_cons_zero, List.set_cons_succ]
          refine wpAnyH_take (i := 9) (v := ?_) rfl (by kernel_rfl) (by kernel_rfl) (by kernel_rfl) (fun _ _ _ h => h) (Or.inl ⟨by rfl, ?_⟩) (by assumption) ?_
          rotate_left
          · intro w hSw
            try dsimp only at hSw
            go_simp
            try with_reducible rfl
          try simp only [List.getElem_toArray, List.getElem_cons_succ, List.getElem_cons_zero, Act.put, List.setIfInBounds_toArray, List.set_cons_zero, List.set_cons_succ]
          refine wpAnyH_take (i := 10) (v := ?_) rfl (by kernel_rfl) (by kernel_rfl) (by kernel_rfl) (fun _ _ _ h => h) (Or.inl ⟨by rfl, ?_⟩) (by assumption) ?_
          rotate_left
          · intro w hSw
            try dsimp only at hSw
            go_simp
            try with_reducible rfl
          try simp only [List.getElem_toArray, List.getElem_cons_succ, List.getElem_cons_zero, Act.put, List.setIfInBounds_toArray, List.set_cons_zero, List.set_cons_succ]
          refine wpAnyH_take (i := 11) (v := ?_) rfl (by kernel_rfl) (by kernel_rfl) (by kernel_rfl) (fun _ _ _ h => h) (Or.inl ⟨by rfl, ?_⟩) (by assumption) ?_
          rotate_left
          · intro w hSw
            try dsimp only at hSw
            go_simp
            try with_reducible rfl
          try simp only [List.getElem_toArray, List.getElem_cons_succ, List.getElem_cons_zero, Act.put, List.setIfInBounds_toArray, List.set_cons_zero, List.set_cons_succ]
          refine wpAnyH_take (i := 12) (v := ?_) rfl (by kernel_rfl) (by kernel_rfl) (by kernel_rfl) (fun _ _ _ h => h) (Or.inl ⟨by rfl, ?_⟩) (by assumption) ?_
          rotate_left
          · intro w hSw
            try dsimp only at hSw
            go_simp
            try with_reducible rfl
          try simp only [List.getElem_toArray, List.getElem_cons_succ, List.getElem_cons_zero, Act.put, List.setIfInBounds_toArray, List.set_cons_zero, List.set_cons_succ]
          refine wpAnyH_take (i := 13) (v := ?_) rfl (by kernel_rfl) (by kernel_rfl) (by kernel_rfl) (fun _ _ _ h => h) (Or.inl ⟨by rfl, ?_⟩) (by assumption) ?_
          rotate_left
          · intro w hSw
            try dsimp only at hSw
            go_simp
            try with_reducible rfl
          try simp only [List.getElem_toArray, List.getElem_cons_succ, List.getElem_cons_zero, Act.put, List.setIfInBounds_toArray, List.set_cons_zero, List.set_cons_succ]
          refine wpAnyH_take (i := 14) (v := undef) rfl (by kernel_rfl) (by kernel_rfl) (by kernel_rfl) (fun _ _ _ h => h) (Or.inr ⟨by rfl, rfl⟩) (by assumption) ?_
          try simp only [List.getElem_toArray, List.getElem_cons_succ, List.getElem_cons_zero, Act.put, List.setIfInBounds_toArray, List.set_cons_zero, List.set_cons_succ]
          refine wpAnyH_take (i := 15) (v := undef) rfl (by kernel_rfl) (by kernel_rfl) (by kernel_rfl) (fun _ _ _ h => h) (Or.inr ⟨by rfl, rfl⟩) (by assumption) ?_
          try simp only [List.getElem_toArray, List.getElem_cons_succ, List.getElem_cons_zero, Act.put, List.setIfInBounds_toArray, List.set_cons_zero, List.set_cons_succ]
          refine wpAnyH_take (i := 16) (v := undef) rfl (by kernel_rfl) (by kernel_rfl) (by kernel_rfl) (fun _ _ _ h => h) (Or.inr ⟨by rfl, rfl⟩) (by assumption) ?_
          try simp only [List.getElem_toArray, List.getElem_cons_succ, List.getElem_cons_zero, Act.put, List.setIfInBounds_toArray, List.set_cons_zero, List.set_cons_succ]
          refine wpAnyH_take (i := 17) (v := undef) rfl (by kernel_rfl) (by kernel_rfl) (by kernel_rfl) (fun _ _ _ h => h) (Or.inr ⟨by rfl, rfl⟩) (by assumption) ?_
          try simp only [List.getElem_toArray, List.getElem_cons_succ, List.getElem_cons_zero, Act.put, List.setIfInBounds_toArray, List.set_cons_zero, List.set_cons_succ]
          refine wpAnyH_take (i := 18) (v := undef) rfl (by kernel_rfl) (by kernel_rfl) (by kernel_rfl) (fun _ _ _ h => h) (Or.inr ⟨by rfl, rfl⟩) (by assumption) ?_
          try simp only [List.getElem_toArray, List.getElem_cons_succ, List.getElem_cons_zero, Act.put, List.setIfInBounds_toArray, List.set_cons_zero, List.set_cons_succ]
          refine wpAnyH_take (i := 19) (v := undef) rfl (by kernel_rfl) (by kernel_rfl) (by kernel_rfl) (fun _ _ _ h => h) (Or.inr ⟨by rfl, rfl⟩) (by assumption) ?_
          try simp only [List.getElem_toArray, List.getElem_cons_succ, List.getElem_cons_zero, Act.put, List.setIfInBounds_toArray, List.set_cons_zero, List.set_cons_succ]
          refine wpAnyH_take (i := 20) (v := ?_) rfl (by kernel_rfl) (by kernel_rfl) (by kernel_rfl) (fun _ _ _ h => h) (Or.inl ⟨by rfl, ?_⟩) (by assumption) ?_
          rotate_left
          · intro w hSw
            try dsimp only at hSw
            go_simp
            try with_reducible rfl
          try simp only [List.getElem_toArray, List.getElem_cons_succ, List.getElem_cons_zero, Act.put, List.setIfInBounds_toArray, List.set_cons_zero, List.set_cons_succ]
          refine wpAnyH_take (i := 21) (v := ?_) rfl (by kernel_rfl) (by kernel_rfl) (by kernel_rfl) (fun _ _ _ h => h) (Or.inl ⟨by rfl, ?_⟩) (by assumption) ?_
          rotate_left
          · intro w hSw
            try dsimp only at hSw
            go_simp
            try with_reducible rfl
          try simp only [List.getElem_toArray, List.getElem_cons_succ, List.getElem_cons_zero, Act.put, List.setIfInBounds_toArray, List.set_cons_zero, List.set_cons_succ]
          refine wpAnyH_take (i := 22) (v := ?_) rfl (by kernel_rfl) (by kernel_rfl) (by kernel_rfl) (fun _ _ _ h => h) (Or.inl ⟨by rfl, ?_⟩) (by assumption) ?_
          rotate_left
          · intro w hSw
            try dsimp only at hSw
            go_simp
            try with_reducible rfl
          try simp only [List.getElem_toArray, List.getElem_cons_succ, List.getElem_cons_zero, Act.put, List.setIfInBounds_toArray, List.set_cons_zero, List.set_cons_succ]
          refine wpAnyH_take (i := 23) (v := ?_) rfl (by kernel_rfl) (by kernel_rfl) (by kernel_rfl) (fun _ _ _ h => h) (Or.inl ⟨by rfl, ?_⟩) (by assumption) ?_
          rotate_left
          · intro w hSw
            try dsimp only at hSw
            go_simp
            try with_reducible rfl
          try simp only [List.getElem_toArray, List.getElem_cons_succ, List.getElem_cons_zero, Act.put, List.setIfInBounds_toArray, List.set_cons_zero, List.set_cons_succ]
          refine wpAnyH_take (i := 24) (v := ?_) rfl (by kernel_rfl) (by kernel_rfl) (by kernel_rfl) (fun _ _ _ h => h) (Or.inl ⟨by rfl, ?_⟩) (by assumption) ?_
          rotate_left
          · intro w hSw
            try dsimp only at hSw
            go_simp
            try with_reducible rfl
          try simp only [List.getElem_toArray, List.getElem_cons_succ, List.getElem_cons_zero, Act.put, List.setIfInBounds_toArray, List.set_cons_zero, List.set_cons_succ]
          refine wpAnyH_take (i := 25) (v := ?_) rfl (by kernel_rfl) (by kernel_rfl) (by kernel_rfl) (fun _ _ _ h => h) (Or.inl ⟨by rfl, ?_⟩) (by assumption) ?_
          rotate_left
          · intro w hSw
            try dsimp only at hSw
            go_simp
            try with_reducible rfl
          try simp only [List.getElem_toArray, List.getElem_cons_succ, List.getElem_cons_zero, Act.put, List.setIfInBounds_toArray, List.set_cons_zero, List.set_cons_succ]
          refine wpAnyH_take (i := 26) (v := ?_) rfl (by kernel_rfl) (by kernel_rfl) (by kernel_rfl) (fun _ _ _ h => h) (Or.inl ⟨by rfl, ?_⟩) (by assumption) ?_
          rotate_left
          · intro w hSw
            try dsimp only at hSw
            go_simp
            try with_reducible rfl
          try simp only [List.getElem_toArray, List.getElem_cons_succ, List.getElem_cons_zero, Act.put, List.setIfInBounds_toArray, List.set_cons_zero, List.set_cons_succ]
          refine wpAnyH_take (i := 28) (v := ?_) rfl (by kernel_rfl) (by kernel_rfl) (by kernel_rfl) (fun _ _ _ h => h) (Or.inl ⟨by rfl, ?_⟩) (by assumption) ?_
          rotate_left
          · intro w hSw
            try dsimp only at hSw
            go_simp
            try with_reducible rfl
          try simp only [List.getElem_toArray, List.getElem_cons_succ, List.getElem_cons_zero, Act.put, List.setIfInBounds_toArray, List.set_cons_zero, List.set_cons_succ]
          refine wpAnyH_ready (rs := [27]) (by kernel_rfl) (by simp) ?_
          refine AllReadyH.cons rfl (fun Kc hKc => ?_) AllReadyH.nil
          go_simp
          refine (HFo.out _).mono ?_
          rintro e wA ⟨a3, c3, b3, d3, rfl, r3, r4, MA⟩
          have AA := Lib.hid ((Mod.refl (fun _ => False) w8).drew.same MA)
          have BA := Lib.hid (BQ.out.mod AA.out (fun q => q))
          have hbA := BA.out.cell
          have R5A := Lib.hid (R5.out.same AA.out)
          have R6A := Lib.hid (R6.out.same AA.out)
          have R3A := Lib.hid r3.row
          have R4A := Lib.hid r4.row
          clear MA r3 r4
          go_wp2_with fail
          refine hKc.out _ _ (by (try dsimp only); first | exact hbq | exact hbA | exact hbB) (fun hHeld => ?_)
          clear hKc Kc
          try simp only [List.getElem_toArray, List.getElem_cons_succ, List.getElem_cons_zero, Act.put, List.setIfInBounds_toArray, List.set_cons_zero, List.set_cons_succ]
          refine wpAnyH_ready (rs := [29]) (by kernel_rfl) (by simp) ?_
          refine AllReadyH.cons rfl (fun Kc hKc => ?_) AllReadyH.nil
          go_simp
          refine (HSm.out _ _ _ _ _ _ _ _ _ R3A.out R5A.out R4A.out R6A.out).mono ?_
          rintro e wB ⟨rfl, MB⟩
          have AB := Lib.hid (AA.out.same MB)
          have hbB := (BA.out.mod MB (fun q => q)).cell
          clear MB
          go_wp2_with fail
          refine hKc.out _ _ (by (try dsimp only); first | exact hbq | exact hbA | exact hbB) (fun hHeld => ?_)
          clear hKc Kc
          try simp only [List.getElem_toArray, List.getElem_cons_succ, List.getElem_cons_zero, Act.put, List.setIfInBounds_toArray, List.set_cons_zero, List.set_cons_succ]
          refine wpAnyH_take (i := 30) (v := ?_) rfl (by kernel_rfl) (by kernel_rfl) (by kernel_rfl) (fun _ _ _ h => h) (Or.inl ⟨by rfl, ?_⟩) (by assumption) ?_
          rotate_left
          · intro w hSw
            try dsimp only at hSw
            go_simp
            try with_reducible rfl
          try simp only [List.getElem_toArray, List.getElem_cons_succ, List.getElem_cons_zero, Act.put, List.setIfInBounds_toArray, List.set_cons_zero, List.set_cons_succ]
          refine wpAnyH_take (i := 31) (v := ?_) rfl (by kernel_rfl) (by kernel_rfl) (by kernel_rfl) (fun _ _ _ h => h) (Or.inl ⟨by rfl, ?_⟩) (by assumption) ?_
          rotate_left
          · intro w hSw
            try dsimp only at hSw
            go_simp
            try with_reducible rfl
          try simp only [List.getElem_toArray, List.getElem_cons_succ, List.getElem_cons_zero, Act.put, List.setIfInBounds_toArray, List.set_cons_zero, List.set_cons_succ]
          refine wpAnyH_take (i := 32) (v := ?_) rfl (by kernel_rfl) (by kernel_rfl) (by kernel_rfl) (fun _ _ _ h => h) (Or.inl ⟨by rfl, ?_⟩) (by assumption) ?_
          rotate_left
          · intro w hSw
            try dsimp only at hSw
            go_simp
            try with_reducible rfl
          try simp only [List.getElem_toArray, List.getElem_cons_succ, List.getElem_cons_zero, Act.put, List.setIfInBounds_toArray, List.set_cons_zero, List.set_cons_succ]
          refine wpAnyH_done (by kernel_rfl) ?_ _
          have Ka := Lib.hid (K9.out.same AB.out)
          clear K9 R5 R6 R5A R6A R3A R4A BA BQ AA AB HFo HSm hbq hbA hbB q1 q2 q3 q4 hk0
          go_wp2_with fail
          cases hpk : parseK s with
          | none =>
            unfold ParseR at HPa
            unfold ParseA at HPr
            rw [hpk] at HPa HPr
            dsimp only at HPa HPr
            clear hpk
            refine (HPa.out _).mono ?_
            rintro e wP ⟨rfl, MP⟩
            have Kb := Lib.hid (Ka.out.same MP)
            clear MP HPa Ka
            go_wp2_with fail
            refine (HPr.out _).mono ?_
            rintro e wQ ⟨⟨vq, rfl⟩, MQ⟩
            have Kc := Lib.hid (Kb.out.same MQ)
            clear MQ HPr Kb
            have ht0 := m_t0 z
            have ht1 := m_t1 z
            obtain ⟨nn, hnn⟩ := Int.eq_ofNat_of_zero_le ht0
            rw [hnn] at ht0 ht1
            have hnn2 : nn ≤ 1000 := by omega
            obtain ⟨wM, hmk, hBM, hMM⟩ := make_u8 wQ nn hnn2
            have kc := run_convert_bytes_arg (P := Tryz.prog) wM 64 5 Tryz.underlying64 Tryz.underlying5 wQ.heap.size 0 (500 + nn) (500 + nn) ((List.replicate (500 + nn) (0 : UInt8)).map fun b => (b.toNat : Int)) (by rw [List.length_map, List.length_replicate]) (fun i hi => by
              rw [Nat.zero_add]
              refine (hBM.cell i (by rw [List.length_replicate]; exact hi)).trans ?_
              have hi2 : i < (List.replicate (500 + nn) (0 : UInt8)).length := by rw [List.length_replicate]; exact hi
              rw [List.getD_eq_getElem?_getD, List.getD_eq_getElem?_getD, List.getElem?_map, List.getElem?_eq_getElem hi2]; rfl) 9 Tryz.underlying9
            rw [strOfNums_bytes] at kc
            have Kd := Lib.hid (Kc.out.same hMM)
            have hbz := bytes_size (List.replicate (500 + nn) (0 : UInt8))
            rw [List.length_replicate] at hbz
            have HOV := Lib.hid (oZ_val (500 + nn))
            have HOF := Lib.hid (oZ_form (500 + nn))
            have HOT := Lib.hid (oZ_fits (500 + nn))
            clear hMM hBM
            generalize List.replicate (500 + nn) (0 : UInt8) = zs at *
            have HMP := Lib.hid (show [oF, oZ (500 + nn)].map ordW = [.iface 68 (.agg #[]), .iface 66 (.agg #[.int .i64 0, .int .i64 0, .string ⟨zs.toArray⟩])] by rw [List.map_cons, List.map_cons, oF_val, HOV.out]; rfl)
            go_wp2_with fail
            have Ke := Lib.hid (Kd.out.alloc (.cells #[.int .i64 0, .int .i64 0, .string ⟨zs.toArray⟩] 66))
            have BZ := Lib.hid (Blk.new wM #[.int .i64 0, .int .i64 0, .string ⟨zs.toArray⟩] 66)
            generalize wM.alloc _ = wN at *
            generalize hgz : wM.heap.size = gz at *
            clear hgz kc hmk Kd
            by_cases hfit : 500 + nn ≤ 512
            · have hft : (oZ (500 + nn)).fits = true := by rw [HOT.out]; exact decide_eq_true hfit
              have hfo : ∀ o ∈ [oF, oZ (500 + nn)], o.form ∧ o.fits = true := by
                intro o ho
                simp at ho
                rcases ho with rfl | rfl
                · exact ⟨oF_form, rfl⟩
                · exact ⟨HOF.out, hft⟩
              have HBz := Lib.hid (bytes_ok (oZ (500 + nn)) HOF.out hft)
              have HAz := Lib.hid (fun a c w hT hr => all_ow [oF, oZ (500 + nn)] hfo a 2 c rfl (by decide) w hT hr)
              rw [HOV.out] at HBz
              rw [HMP.out] at HAz
              have d5 : decide ((500 : Int) + (nn : Int) ≤ 512) = true := decide_eq_true (by omega)
              clear hft hfo hfit
              generalize packW (oZ (500 + nn)) = pz at *
              generalize sealL (allW [oF, oZ (500 + nn)]) = az at *
              refine (HBz.out _ (tab_same HT.out Ke.out)).mono ?_
              rintro e wX ⟨rfl, MX⟩
              have Kf := Lib.hid (Ke.out.same MX)
              have BZ2 := Lib.hid (BZ.out.mod MX (fun q => q))
              have hbz2 := BZ2.out.cell
              clear MX HBz Ke BZ
              go_wp2_with fail
              refine (HAz.out _ _ _ (tab_same HT.out (Kf.out.alloc _)) (row2_new wX _ _ 24)).mono ?_
              rintro e wY ⟨rfl, MY⟩
              have Kg := Lib.hid ((Kf.out.alloc (.cells #[.iface 68 (.agg #[]), .iface 66 (.agg #[.int .i64 0, .int .i64 0, .string ⟨zs.toArray⟩])] 24)).same MY)
              have hbz3 := ((BZ2.out.alloc (.cells #[.iface 68 (.agg #[]), .iface 66 (.agg #[.int .i64 0, .int .i64 0, .string ⟨zs.toArray⟩])] 24)).mod MY (fun q => q)).cell
              clear MY HAz Kf hbz2
              go_wp2
              exact HR.out _ _ ⟨rfl, Kg.out⟩
            · have hft : (oZ (500 + nn)).fits = false := by rw [HOT.out]; exact decide_eq_false hfit
              have hfo : ∀ o ∈ [oF, oZ (500 + nn)], o.form := by
                intro o ho
                simp at ho
                rcases ho with rfl | rfl
                · exact oF_form
                · exact HOF.out
              have HBz := Lib.hid (bytes_bad (oZ (500 + nn)) HOF.out hft)
              have HAz := Lib.hid (fun a c w hT hr => all_mix [oF, oZ (500 + nn)] hfo ⟨oZ (500 + nn), by simp, hft⟩ a 2 c rfl (by decide) w hT hr)
              rw [HOV.out] at HBz
              rw [HMP.out] at HAz
              have d5 : decide ((500 : Int) + (nn : Int) ≤ 512) = false := decide_eq_false (by omega)
              clear hft hfo hfit
              refine (HBz.out _).mono ?_
              rintro e wX ⟨rfl, MX⟩
              have Kf := Lib.hid (Ke.out.same MX)
              have BZ2 := Lib.hid (BZ.out.mod MX (fun q => q))
              have hbz2 := BZ2.out.cell
              clear MX HBz Ke BZ
              go_wp2_with fail
              refine (HAz.out _ _ _ (tab_same HT.out (Kf.out.alloc _)) (row2_new wX _ _ 24)).mono ?_
              rintro e wY ⟨rfl, MY⟩
              have Kg := Lib.hid ((Kf.out.alloc (.cells #[.iface 68 (.agg #[]), .iface 66 (.agg #[.int .i64 0, .int .i64 0, .string ⟨zs.toArray⟩])] 24)).same MY)
              have hbz3 := ((BZ2.out.alloc (.cells #[.iface 68 (.agg #[]), .iface 66 (.agg #[.int .i64 0, .int .i64 0, .string ⟨zs.toArray⟩])] 24)).mod MY (fun q => q)).cell
              clear MY HAz Kf hbz2
              go_wp2
              exact HR.out _ _ ⟨rfl, Kg.out⟩
          | some M =>
            unfold ParseR at HPa
            unfold ParseA at HPr
            rw [hpk] at HPa HPr
            dsimp only at HPa HPr
            have hMf := parseK_form hpk
            clear hpk
            obtain ⟨ml, hml⟩ : ∃ ml, M.length = ml := ⟨_, rfl⟩
            rw [hml] at HPa HPr
            have HMl := Lib.hid hml
            have hml4 : ml ≤ 400 := by rw [← hml]; exact hMf.1
            have HMF := Lib.hid hMf.2
            clear hml hMf
            refine (HPa.out _).mono ?_
            rintro e wP ⟨⟨a8, c8, rfl, r8⟩, MP⟩
            have Kb := Lib.hid (Ka.out.same MP)
            have R8a := Lib.hid r8
            clear MP HPa Ka r8
            go_wp2_with fail
            refine (HPr.out _).mono ?_
            rintro e wQ ⟨⟨a9, c9, rfl, r9⟩, MQ⟩
            have Kc := Lib.hid (Kb.out.same MQ)
            have R8 := Lib.hid (R8a.out.same MQ)
            have R9 := Lib.hid r9
            clear MQ HPr Kb R8a r9
            go_wp2_with fail
            go_loopw [25] (fun i wr => ∃ q : Nat, q ≤ ml ∧ i = .int .i64 (q : Int) ∧ Same wQ wr) (fun i _ => ml - (intOf i).toNat)
            case atStart => exact ⟨0, by omega, rfl, Mod.refl _ _⟩
            case round =>
              obtain ⟨q, hq, rfl, hM⟩ := hrel
              have L2 := Lib.hid hM
              have hszr := hM.size
              by_cases hlt : q < ml
              · obtain ⟨x, hx⟩ : ∃ x, M[q]? = some x := ⟨_, List.getElem?_eq_getElem (by rw [HMl.out]; exact hlt)⟩
                have hok := HMF.out x (List.mem_of_getElem? hx)
                obtain ⟨b8, o8, rfl, hb80, hc8⟩ := R8.out (by rw [List.length_map, HMl.out]; omega)
                obtain ⟨b9, o9, rfl, hb90, hc9⟩ := R9.out (by rw [HMl.out]; omega)
                obtain ⟨a5, c5, a6, c6, e0, e1, e2, r5, r6⟩ := hc9 q x hx
                rw [Nat.mul_comm] at e0 e1 e2
                have hcm := (hM.cell hb80 (fun q => q) (o8 + q)).trans (hc8 q (ordW x) (by rw [List.getElem?_map, hx]; rfl))
                have f0 := (hM.cell hb90 (fun q => q) (o9 + q * 3)).trans e0
                have f1 := (hM.cell hb90 (fun q => q) (o9 + q * 3 + 1)).trans e1
                have f2 := (hM.cell hb90 (fun q => q) (o9 + q * 3 + 2)).trans e2
                have hb8 : b8 < wr.heap.size := by omega
                have hb9 : b9 < wr.heap.size := by omega
                have R5 := Lib.hid (r5.row.same hM)
                have R6 := Lib.hid (r6.row.same hM)
                have HFo := Lib.hid (form38_any x hok.1 hok.2)
                have HSm := Lib.hid (same_mix x hok.1)
                have hk1 : (0 : Int) ≤ (q : Int) := by omega
                have hk2 : (q : Int) < (ml : Int) := by omega
                unfold FormV at HFo
                obtain ⟨T9, v9, hv⟩ := ordW_if x
                rw [hv] at hcm HFo
                clear hv hx hok hc8 hc9 e0 e1 e2 r5 r6 hM
                generalize x.ns.map (Value.int .i64) = on at *
                generalize x.ts.map strV = ot at *
                generalize (x.k : Int) + 1 = ok1 at *
                generalize hon : on.length = onl at *
                generalize hot : ot.length = otl at *
                generalize x.ns.length = onm at *
                generalize x.ts.length = otm at *
                clear hon hot
                go_wp2_with fail
                refine wp_region_held_drew (S := fun w' => Same wr w') (by kernel_rfl) (by (try dsimp only); exact (Mod.refl _ _).drew) (fun hHeld => ?_)
                refine wpAnyH_take (i := 0) (v := ?_) rfl (by kernel_rfl) (by kernel_rfl) (by kernel_rfl) (fun _ _ _ h => h) (Or.inl ⟨by rfl, ?_⟩) (by assumption) ?_
                rotate_left
                · intro w hSw
                  try dsimp only at hSw
                  go_simp
                  try with_reducible rfl
                try simp only [List.getElem_toArray, List.getElem_cons_succ, List.getElem_cons_zero, Act.put, List.setIfInBounds_toArray, List.set_cons_zero, List.set_cons_succ]
                refine wpAnyH_take (i := 1) (v := ?_) rfl (by kernel_rfl) (by kernel_rfl) (by kernel_rfl) (fun _ _ _ h => h) (Or.inl ⟨by rfl, ?_⟩) (by assumption) ?_
                rotate_left
                · intro w hSw
                  try dsimp only at hSw
                  go_simp
                  try with_reducible rfl
                try simp only [List.getElem_toArray, List.getElem_cons_succ, List.getElem_cons_zero, Act.put, List.setIfInBounds_toArray, List.set_cons_zero, List.set_cons_succ]
                refine wpAnyH_take (i := 2) (v := ?_) rfl (by kernel_rfl) (by kernel_rfl) (by kernel_rfl) (fun _ _ _ h => h) (Or.inl ⟨by rfl, ?_⟩) (by assumption) ?_
                rotate_left
                · intro w hSw
                  try dsimp only at hSw
                  go_simp
                  try with_reducible rfl
                try simp only [List.getElem_toArray, List.getElem_cons_succ, List.getElem_cons_zero, Act.put, List.setIfInBounds_toArray, List.set_cons_zero, List.set_cons_succ]
                refine wpAnyH_take (i := 3) (v := ?_) rfl (by kernel_rfl) (by kernel_rfl) (by kernel_rfl) (fun _ _ _ h => h) (Or.inl ⟨by rfl, ?_⟩) (by assumption) ?_
                rotate_left
                · intro w hSw
                  try dsimp only at hSw
                  have g1 := (hSw.cell hb8 (fun q => q) (o8 + q)).trans hcm
                  go_simp
                  try with_reducible rfl
                try simp only [List.getElem_toArray, List.getElem_cons_succ, List.getElem_cons_zero, Act.put, List.setIfInBounds_toArray, List.set_cons_zero, List.set_cons_succ]
                refine wpAnyH_take (i := 5) (v := ?_) rfl (by kernel_rfl) (by kernel_rfl) (by kernel_rfl) (fun _ _ _ h => h) (Or.inl ⟨by rfl, ?_⟩) (by assumption) ?_
                rotate_left
                · intro w hSw
                  try dsimp only at hSw
                  go_simp
                  try with_reducible rfl
                try simp only [List.getElem_toArray, List.getElem_cons_succ, List.getElem_cons_zero, Act.put, List.setIfInBounds_toArray, List.set_cons_zero, List.set_cons_succ]
                refine wpAnyH_take (i := 6) (v := ?_) rfl (by kernel_rfl) (by kernel_rfl) (by kernel_rfl) (fun _ _ _ h => h) (Or.inl ⟨by rfl, ?_⟩) (by assumption) ?_
                rotate_left
                · intro w hSw
                  try dsimp only at hSw
                  go_simp
                  try with_reducible rfl
                try simp only [List.getElem_toArray, List.getElem_cons_succ, List.getElem_cons_zero, Act.put, List.setIfInBounds_toArray, List.set_cons_zero, List.set_cons_succ]
                refine wpAnyH_take (i := 7) (v := ?_) rfl (by kernel_rfl) (by kernel_rfl) (by kernel_rfl) (fun _ _ _ h => h) (Or.inl ⟨by rfl, ?_⟩) (by assumption) ?_
                rotate_left
                · intro w hSw
                  try dsimp only at hSw
                  go_simp
                  try with_reducible rfl
                try simp only [List.getElem_toArray, List.getElem_cons_succ, List.getElem_cons_zero, Act.put, List.setIfInBounds_toArray, List.set_cons_zero, List.set_cons_succ]
                refine wpAnyH_take (i := 8) (v := ?_) rfl (by kernel_rfl) (by kernel_rfl) (by kernel_rfl) (fun _ _ _ h => h) (Or.inl ⟨by rfl, ?_⟩) (by assumption) ?_
                rotate_left
                · intro w hSw
                  try dsimp only at hSw
                  have g1 := (hSw.cell hb9 (fun q => q) (o9 + q * 3)).trans f0
                  have g2 := (hSw.cell hb9 (fun q => q) (o9 + q * 3 + 1)).trans f1
                  have g3 := (hSw.cell hb9 (fun q => q) (o9 + q * 3 + 2)).trans f2
                  go_simp
                  try with_reducible rfl
                try simp only [List.getElem_toArray, List.getElem_cons_succ, List.getElem_cons_zero, Act.put, List.setIfInBounds_toArray, List.set_cons_zero, List.set_cons_succ]
                refine wpAnyH_ready (rs := [4]) (by kernel_rfl) (by simp) ?_
                refine AllReadyH.cons rfl (fun Kc hKc => ?_) AllReadyH.nil
                go_simp
                refine (HFo.out _).mono ?_
                rintro e wA ⟨a3, c3, b3, d3, rfl, r3, r4, MA⟩
                have AA := Lib.hid ((Mod.refl (fun _ => False) wr).drew.same MA)
                have R5A := Lib.hid (R5.out.same AA.out)
                have R6A := Lib.hid (R6.out.same AA.out)
                have R3A := Lib.hid r3.row
                have R4A := Lib.hid r4.row
                clear MA r3 r4
                go_wp2_with fail
                refine hKc.out _ _ (by (try dsimp only); exact AA.out) (fun hHeld => ?_)
                clear hKc Kc
                try simp only [List.getElem_toArray, List.getElem_cons_succ, List.getElem_cons_zero, Act.put, List.setIfInBounds_toArray, List.set_cons_zero, List.set_cons_succ]
                refine wpAnyH_ready (rs := [9]) (by kernel_rfl) (by simp) ?_
                refine AllReadyH.cons rfl (fun Kc hKc => ?_) AllReadyH.nil
                go_simp
                refine (HSm.out _ _ _ _ _ _ _ _ _ R3A.out R5A.out R4A.out R6A.out).mono ?_
                rintro e wB ⟨rfl, MB⟩
                have AB := Lib.hid (AA.out.same MB)
                clear MB
                go_wp2_with fail
                refine hKc.out _ _ (by (try dsimp only); exact AB.out) (fun hHeld => ?_)
                clear hKc Kc
                try simp only [List.getElem_toArray, List.getElem_cons_succ, List.getElem_cons_zero, Act.put, List.setIfInBounds_toArray, List.set_cons_zero, List.set_cons_succ]
                refine wpAnyH_take (i := 10) (v := ?_) rfl (by kernel_rfl) (by kernel_rfl) (by kernel_rfl) (fun _ _ _ h => h) (Or.inl ⟨by rfl, ?_⟩) (by assumption) ?_
                rotate_left
                · intro w hSw
                  try dsimp only at hSw
                  go_simp
                  try with_reducible rfl
                try simp only [List.getElem_toArray, List.getElem_cons_succ, List.getElem_cons_zero, Act.put, List.setIfInBounds_toArray, List.set_cons_zero, List.set_cons_succ]
                refine wpAnyH_done (by kernel_rfl) ?_ _
                go_wp2_with fail
                go_roundw
                case rel => exact ⟨q + 1, by omega, by go_num, L2.out.same AB.out⟩
                case measure => simp [intOf]; omega
              · obtain rfl : q = ml := by omega
                have Kc2 := Lib.hid (Kc.out.same L2.out)
                clear Kc R8 R9 L2 hM
                have ht0 := m_t0 z
                have ht1 := m_t1 z
                obtain ⟨nn, hnn⟩ := Int.eq_ofNat_of_zero_le ht0
                rw [hnn] at ht0 ht1
                have hnn2 : nn ≤ 1000 := by omega
                obtain ⟨wM, hmk, hBM, hMM⟩ := make_u8 wr nn hnn2
                have kc := run_convert_bytes_arg (P := Tryz.prog) wM 64 5 Tryz.underlying64 Tryz.underlying5 wr.heap.size 0 (500 + nn) (500 + nn) ((List.replicate (500 + nn) (0 : UInt8)).map fun b => (b.toNat : Int)) (by rw [List.length_map, List.length_replicate]) (fun i hi => by
                  rw [Nat.zero_add]
                  refine (hBM.cell i (by rw [List.length_replicate]; exact hi)).trans ?_
                  have hi2 : i < (List.replicate (500 + nn) (0 : UInt8)).length := by rw [List.length_replicate]; exact hi
                  rw [List.getD_eq_getElem?_getD, List.getD_eq_getElem?_getD, List.getElem?_map, List.getElem?_eq_getElem hi2]; rfl) 9 Tryz.underlying9
                rw [strOfNums_bytes] at kc
                have Kd := Lib.hid (Kc2.out.same hMM)
                have hbz := bytes_size (List.replicate (500 + nn) (0 : UInt8))
                rw [List.length_replicate] at hbz
                have HOV := Lib.hid (oZ_val (500 + nn))
                have HOF := Lib.hid (oZ_form (500 + nn))
                have HOT := Lib.hid (oZ_fits (500 + nn))
                clear hMM hBM
                generalize List.replicate (500 + nn) (0 : UInt8) = zs at *
                have HMP := Lib.hid (show [oF, oZ (500 + nn)].map ordW = [.iface 68 (.agg #[]), .iface 66 (.agg #[.int .i64 0, .int .i64 0, .string ⟨zs.toArray⟩])] by rw [List.map_cons, List.map_cons, oF_val, HOV.out]; rfl)
                go_wp2_with fail
                have Ke := Lib.hid (Kd.out.alloc (.cells #[.int .i64 0, .int .i64 0, .string ⟨zs.toArray⟩] 66))
                have BZ := Lib.hid (Blk.new wM #[.int .i64 0, .int .i64 0, .string ⟨zs.toArray⟩] 66)
                generalize wM.alloc _ = wN at *
                generalize hgz : wM.heap.size = gz at *
                clear hgz kc hmk Kd
                by_cases hfit : 500 + nn ≤ 512
                · have hft : (oZ (500 + nn)).fits = true := by rw [HOT.out]; exact decide_eq_true hfit
                  have hfo : ∀ o ∈ [oF, oZ (500 + nn)], o.form ∧ o.fits = true := by
                    intro o ho
                    simp at ho
                    rcases ho with rfl | rfl
                    · exact ⟨oF_form, rfl⟩
                    · exact ⟨HOF.out, hft⟩
                  have HBz := Lib.hid (bytes_ok (oZ (500 + nn)) HOF.out hft)
                  have HAz := Lib.hid (fun a c w hT hr => all_ow [oF, oZ (500 + nn)] hfo a 2 c rfl (by decide) w hT hr)
                  rw [HOV.out] at HBz
                  rw [HMP.out] at HAz
                  have d5 : decide ((500 : Int) + (nn : Int) ≤ 512) = true := decide_eq_true (by omega)
                  clear hft hfo hfit
                  generalize packW (oZ (500 + nn)) = pz at *
                  generalize sealL (allW [oF, oZ (500 + nn)]) = az at *
                  refine (HBz.out _ (tab_same HT.out Ke.out)).mono ?_
                  rintro e wX ⟨rfl, MX⟩
                  have Kf := Lib.hid (Ke.out.same MX)
                  have BZ2 := Lib.hid (BZ.out.mod MX (fun q => q))
                  have hbz2 := BZ2.out.cell
                  clear MX HBz Ke BZ
                  go_wp2_with fail
                  refine (HAz.out _ _ _ (tab_same HT.out (Kf.out.alloc _)) (row2_new wX _ _ 24)).mono ?_
                  rintro e wY ⟨rfl, MY⟩
                  have Kg := Lib.hid ((Kf.out.alloc (.cells #[.iface 68 (.agg #[]), .iface 66 (.agg #[.int .i64 0, .int .i64 0, .string ⟨zs.toArray⟩])] 24)).same MY)
                  have hbz3 := ((BZ2.out.alloc (.cells #[.iface 68 (.agg #[]), .iface 66 (.agg #[.int .i64 0, .int .i64 0, .string ⟨zs.toArray⟩])] 24)).mod MY (fun q => q)).cell
                  clear MY HAz Kf hbz2
                  go_wp2
                  exact HR.out _ _ ⟨rfl, Kg.out⟩
                · have hft : (oZ (500 + nn)).fits = false := by rw [HOT.out]; exact decide_eq_false hfit
                  have hfo : ∀ o ∈ [oF, oZ (500 + nn)], o.form := by
                    intro o ho
                    simp at ho
                    rcases ho with rfl | rfl
                    · exact oF_form
                    · exact HOF.out
                  have HBz := Lib.hid (bytes_bad (oZ (500 + nn)) HOF.out hft)
                  have HAz := Lib.hid (fun a c w hT hr => all_mix [oF, oZ (500 + nn)] hfo ⟨oZ (500 + nn), by simp, hft⟩ a 2 c rfl (by decide) w hT hr)
                  rw [HOV.out] at HBz
                  rw [HMP.out] at HAz
                  have d5 : decide ((500 : Int) + (nn : Int) ≤ 512) = false := decide_eq_false (by omega)
                  clear hft hfo hfit
                  refine (HBz.out _).mono ?_
                  rintro e wX ⟨rfl, MX⟩
                  have Kf := Lib.hid (Ke.out.same MX)
                  have BZ2 := Lib.hid (BZ.out.mod MX (fun q => q))
                  have hbz2 := BZ2.out.cell
                  clear MX HBz Ke BZ
                  go_wp2_with fail
                  refine (HAz.out _ _ _ (tab_same HT.out (Kf.out.alloc _)) (row2_new wX _ _ 24)).mono ?_
                  rintro e wY ⟨rfl, MY⟩
                  have Kg := Lib.hid ((Kf.out.alloc (.cells #[.iface 68 (.agg #[]), .iface 66 (.agg #[.int .i64 0, .int .i64 0, .string ⟨zs.toArray⟩])] 24)).same MY)
                  have hbz3 := ((BZ2.out.alloc (.cells #[.iface 68 (.agg #[]), .iface 66 (.agg #[.int .i64 0, .int .i64 0, .string ⟨zs.toArray⟩])] 24)).mod MY (fun q => q)).cell
                  clear MY HAz Kf hbz2
                  go_wp2
                  exact HR.out _ _ ⟨rfl, Kg.out⟩
  · have d0 : decide ((4096 : Int) < (s.length : Int)) = true := decide_eq_true (by omega)
    clear hs
    go_enter Tryz.func4, Tryz.ntmps4
    go_wp2_with fail
    refine (HA.out _ HT.out).mono ?_
    rintro e w1 ⟨rfl, M1⟩
    have K1 := Lib.hid M1
    clear M1 HA
    go_wp2
    exact HR.out _ _ ⟨rfl, K1.out⟩
end Go.Proofs.YtdengmlidckkeaaGreatDoor
