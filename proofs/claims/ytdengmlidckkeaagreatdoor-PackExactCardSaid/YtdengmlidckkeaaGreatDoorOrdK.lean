import Derived.Test.YtdengmlidckkeaaGreatDoorOrdJ
set_option linter.unusedSimpArgs false
set_option linter.unusedVariables false
namespace Go.Proofs.YtdengmlidckkeaaGreatDoor
open Go Go.RowKit
/-- The byte of three. -/
def triB (y z : UInt8) : Int := IntKind.u8.wrap (IntKind.u8.wrap (IntKind.u8.wrap (64 * IntKind.u8.wrap ((y.toNat : Int) - 160)) + (z.toNat : Int)) - 128)
theorem triB_bd (y z : UInt8) : 0 ≤ triB y z ∧ triB y z < 256 := by unfold triB; rw [u8wrap]; omega
def outK (l : List UInt8) (k : Nat) : List UInt8 := (List.range k).map fun j => UInt8.ofNat (triB (l.getD (3 * j + 1) 0) (l.getD (3 * j + 2) 0)).toNat
theorem outK_len (l : List UInt8) (k : Nat) : (outK l k).length = k := by simp [outK]
theorem outK_succ (l : List UInt8) (k : Nat) : Lib.byteCells (outK l (k + 1)) = Lib.byteCells (outK l k) ++ [.int .u8 (triB (l.getD (3 * k + 1) 0) (l.getD (3 * k + 2) 0))] := by
  have hb := triB_bd (l.getD (3 * k + 1) 0) (l.getD (3 * k + 2) 0)
  have : outK l (k + 1) = outK l k ++ [UInt8.ofNat (triB (l.getD (3 * k + 1) 0) (l.getD (3 * k + 2) 0)).toNat] := by simp [outK, List.range_succ]
  rw [this, byteCells_snoc, UInt8.toNat_ofNat', Nat.mod_eq_of_lt (by omega), Int.toNat_of_nonneg hb.1]
/-- The reference's bytes of runes. -/
def refBytes (l : List UInt8) : List UInt8 × Bool :=
  if l = [45] then ([], true) else if l = [] ∨ l.length % 3 ≠ 0 then ([], false) else if runesL (outK l (l.length / 3)) = l then (outK l (l.length / 3), true) else ([], false)
set_option maxRecDepth 10000 in
set_option maxHeartbeats 1000000 in
theorem refbytes_any (l : List UInt8) (hl : l.length ≤ 100000) (w : World) : Calls Tryz.prog 46 #[.string ⟨l.toArray⟩] w fun e w' => e = .returned (.tuple #[.string ⟨(refBytes l).1.toArray⟩, .bool (refBytes l).2]) ∧ Same w w' := by
  refine opq fun R HR => ?_
  by_cases h45 : l = [45]
  · subst h45
    go_enter Tryz.func46, Tryz.ntmps46
    go_wp2
    exact HR.out _ _ ⟨rfl, Mod.refl _ _⟩
  · by_cases hbad : l = [] ∨ l.length % 3 ≠ 0
    · have hb : refBytes l = ([], false) := by unfold refBytes; rw [if_neg h45, if_pos hbad]
      rw [hb] at HR
      by_cases hq : l = []
      · subst hq
        go_enter Tryz.func46, Tryz.ntmps46
        go_wp2
        exact HR.out _ _ ⟨rfl, Mod.refl _ _⟩
      · have hm : l.length % 3 ≠ 0 := by rcases hbad with q | q; exact absurd q hq; exact q
        have b1 : (l == [45]) = false := by simp [h45]
        have b2 : (l == []) = false := by simp [hq]
        have b3 : l.isEmpty = false := by simp [hq]
        have hsz := bytes_size l
        have b4 : (((l.length : Int) % 3) == 0) = false := beq_eq_false_iff_ne.2 (by omega)
        clear hb hbad
        go_enter Tryz.func46, Tryz.ntmps46
        go_wp2
        exact HR.out _ _ ⟨rfl, Mod.refl _ _⟩
    · have hg : refBytes l = if runesL (outK l (l.length / 3)) = l then (outK l (l.length / 3), true) else ([], false) := by unfold refBytes; rw [if_neg h45, if_neg hbad]
      have hq : l ≠ [] := fun q => hbad (.inl q)
      have hm : l.length % 3 = 0 := by rcases Nat.eq_zero_or_pos (l.length % 3) with q | q; exact q; exact absurd (.inr (by omega)) hbad
      rw [hg] at HR
      have b1 : (l == [45]) = false := by simp [h45]
      have b2 : (l == []) = false := by simp [hq]
      have b3 : l.isEmpty = false := by simp [hq]
      have hsz := bytes_size l
      have b4 : (((l.length : Int) % 3) != 0) = false := by rw [show (l.length : Int) % 3 = 0 from by omega]; rfl
      obtain ⟨n, hn⟩ : ∃ n, l.length = 3 * n := ⟨l.length / 3, by omega⟩
      have hn3 : l.length / 3 = n := by omega
      have hpos : 0 < l.length := List.length_pos_iff.2 hq
      rw [hn3] at HR
      obtain ⟨i0, hi, hz0, hz1, hz2⟩ := info_parts info5
      have I0 := Lib.hid hi
      have Z0 := Lib.hid hz0
      have Z1 := Lib.hid hz1
      have Z2 := Lib.hid hz2
      have HNn := Lib.hid hn
      clear hi hz0 hz1 hz2 hg hbad hm hn3 hn
      go_enter Tryz.func46, Tryz.ntmps46
      go_wp2_with fail
      clear b1 b2 b3 b4
      go_loopw [5, 4] (fun i v wr => ∃ j : Nat, j ≤ n ∧ i = .int .i64 ((3 * j : Nat) : Int) ∧ wr.ownsRow w.heap.size 5 1 v j (Lib.byteCells (outK l j)) ∧ Same w wr) (fun i _ _ => l.length - (intOf i).toNat)
      case atStart => exact ⟨0, by omega, rfl, ⟨rfl, .inr ⟨_, 0, #[], rfl, Nat.le_refl _, heap_new _ _, by omega, by unfold maxLen; omega, rfl, rfl⟩⟩, (Mod.refl _ _).alloc _⟩
      case round =>
        obtain ⟨j, hj, rfl, hown, hM⟩ := hrel
        have L1 := Lib.hid hown
        have L2 := Lib.hid hM
        have hszr := hM.size
        by_cases hlt : j < n
        · have hN := HNn.out
          obtain ⟨y, hy⟩ : ∃ y, l[3 * j + 1]? = some y := ⟨_, List.getElem?_eq_getElem (by omega)⟩
          obtain ⟨z, hz⟩ : ∃ z, l[3 * j + 2]? = some z := ⟨_, List.getElem?_eq_getElem (by omega)⟩
          obtain ⟨m, hm3⟩ : ∃ m, 3 * j = m := ⟨_, rfl⟩
          rw [hm3] at hy hz ⊢
          have ky := fun W => idx_any l (m + 1) y hy ((m : Int) + 1) (by omega) W
          have kz := fun W => idx_any l (m + 2) z hz ((m : Int) + 2) (by omega) W
          have ky2 := fun W => idx_any l (m + 1) y hy (IntKind.i64.wrap ((m : Int) + 1)) (by rw [IntWalk.i64_in _ (by have := HNn.out; omega)]; omega) W
          have kz2 := fun W => idx_any l (m + 2) z hz (IntKind.i64.wrap ((m : Int) + 2)) (by rw [IntWalk.i64_in _ (by have := HNn.out; omega)]; omega) W
          have E := Lib.hid (outK_succ l j)
          rw [hm3, List.getD_eq_getElem?_getD, List.getD_eq_getElem?_getD, hy, hz, Option.getD_some, Option.getD_some] at E
          have HM3 := Lib.hid hm3
          have hml : (m : Int) < (l.length : Int) := by omega
          have hm1 : ((m : Int) + 1) < (l.length : Int) := by omega
          have hm2 : ((m : Int) + 2) < (l.length : Int) := by omega
          have hll : j + 1 ≤ maxLen := by unfold maxLen; omega
          have hlm : (j + 1) * 1 ≤ 140737488355328 := by omega
          clear hown hM hy hz hm3 hN
          unfold triB at E
          go_wp2_with fail
          go_region_held3 (fun w' => True) (first | trivial | assumption | go_keep) ((
            first
            | (refine step_append_lies _ rfl (.tmp 23) (.tmp 36) 64 rfl w.heap.size 5 i0 (.int .u8 0) 1 1 Tryz.underlying64 I0.out Z0.out Z1.out Z2.out rfl (by decide) _ _ _ (by simp [Act.eval, Act.put]) (L1.out.drew.alloc _) ⟨wr.heap.size, 0, none⟩ 1 1 [.int .u8 (IntKind.u8.wrap (IntKind.u8.wrap (IntKind.u8.wrap (64 * IntKind.u8.wrap ((y.toNat : Int) - 160)) + (z.toNat : Int)) - 128))] (by simp [Act.eval, Act.put]) rfl (one_new wr.drew _ _) (fun u hu => (by simp at hu; subst hu; rfl)) (by decide) hll hlm (by simp [World.size_alloc]; omega) (wr.heap.size + 1) (by simp) ?_; intro g cap w5 hown' hgrow hgg hgl; have Q1 := Lib.hid hown'; have Q2 := Lib.hid hgrow; clear hown' hgrow)))
          all_goals
            have P1 := Lib.hid (same_append L2.out.drew L1.out.drew Q2.out)
            clear Q2
            go_wp2_with fail
            go_roundw
            case rel => exact ⟨j + 1, by omega, by rw [show ((3 * (j + 1) : Nat) : Int) = (m : Int) + 3 from by have := HM3.out; omega], by rw [E.out]; exact Q1.out, P1.out⟩
            case measure => simp only [intOf]; omega
        · obtain rfl : j = n := by omega
          have hN := HNn.out
          obtain ⟨m, hm3⟩ : ∃ m, 3 * j = m := ⟨_, rfl⟩
          have hml : ¬ (m : Int) < (l.length : Int) := by omega
          have hj0 : 0 < j := by omega
          obtain ⟨g, cap, hgv, hg0, hgc, hrow⟩ := RowV.of_owns L1.out hj0
          subst hgv
          rw [hm3]
          have hol := outK_len l j
          have kcw := fun (wz : World) (M : Same wr wz) => run_convert_bytes_arg (P := Tryz.prog) wz 64 5 Tryz.underlying64 Tryz.underlying5 g 0 j cap ((outK l j).map fun b => (b.toNat : Int)) (by rw [List.length_map, hol]) (fun i hi => by
            rw [Nat.zero_add]
            refine (M.cell hrow.lt (fun q => q) i).trans ((hrow.cell i (by omega)).trans ?_)
            have hi2 : i < (outK l j).length := by omega
            rw [List.getD_eq_getElem?_getD, List.getD_eq_getElem?_getD]
            unfold Lib.byteCells
            rw [List.getElem?_map, List.getElem?_map, List.getElem?_eq_getElem hi2]; rfl) 9 Tryz.underlying9
          rw [strOfNums_bytes] at kcw
          have KC := Lib.hid kcw
          have kc1 := kcw wr (Mod.refl _ _)
          have HRf := Lib.hid (refrunes_any (outK l j) (by omega) wr)
          clear hown hM hrow kcw hN hm3 hol
          generalize outK l j = O at *
          go_wp2_with fail
          refine HRf.out.mono ?_
          rintro e w2 ⟨rfl, M2⟩
          have P3 := Lib.hid (L2.out.same M2)
          have kc2 := KC.out w2 M2
          clear M2 HRf kc1 KC L1 L2
          by_cases hr : runesL O = l
          · rw [if_pos hr] at HR
            rw [hr]
            go_wp2_with fail
            exact HR.out _ _ ⟨rfl, P3.out⟩
          · rw [if_neg hr] at HR
            have hr2 : (runesL O == l) = false := by simp [hr]
            go_wp2_with fail
            exact HR.out _ _ ⟨rfl, P3.out⟩
end Go.Proofs.YtdengmlidckkeaaGreatDoor
