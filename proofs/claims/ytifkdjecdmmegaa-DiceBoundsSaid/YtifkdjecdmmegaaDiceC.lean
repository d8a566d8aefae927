import Derived.Test.YtifkdjecdmmegaaDiceA
import Derived.Test.YtifkdjecdmmegaaRows2
import Derived.OwnWalk
import Derived.BigRegion
set_option linter.unusedSimpArgs false
set_option linter.unusedVariables false
namespace Go.Proofs.Ytifkdjecdmmegaa
open Go Go.RowKit
theorem info3 : (Try.prog.info? 3).map (fun i => (i.zero, i.size, i.bytes)) = some (some (.int .i64 0), 1, 8) := by kernel_rfl
def shRun : Nat → (Nat → Int) × Int → (Nat → Int) × Int
  | 0, x => x
  | j + 1, (f, t) => shRun j (upd (upd f (j + 1) (f (belV (j + 2) t).toNat)) (belV (j + 2) t).toNat (f (j + 1)), belS (j + 2) t)
def iotaF : Nat → Int := fun i => i
/-- A shuffle's answer: a slice of m numbers, in a row of its own. -/
def Shuffled (w : World) (D : Nat) (m : Nat) (f : Nat → Int) (t : Int) (e : Ending) (w' : World) : Prop :=
  ∃ a c, e = .returned (.slice a m c) ∧ (0 < m → ∃ g, a = some ⟨g, 0, none⟩ ∧ w.heap.size ≤ g ∧ RowI w' g m f) ∧ DS w' D t ∧ Mod (fun i => i = D) w w'
theorem made_get (n i : Nat) (h : i < n) : (madeCells (Value.cells (.int .i64 0)) n).toList.getD i undef = .int .i64 0 := by
  rw [List.getD_eq_getElem?_getD, Array.getElem?_toList]
  simp [madeCells, Value.cells, h, Nat.mod_one]
theorem iota_step (k i : Nat) : upd (fun i => Value.int IntKind.i64 ((fun i : Nat => if i < k then (i : Int) else 0) i)) k (Value.int .i64 k) i = Value.int IntKind.i64 ((fun i : Nat => if i < k + 1 then (i : Int) else 0) i) := by
  show (if i = k then Value.int .i64 (k : Int) else Value.int .i64 (if i < k then (i : Int) else 0)) = Value.int .i64 (if i < k + 1 then (i : Int) else 0)
  by_cases hik : i = k
  · subst hik; rw [if_pos rfl, if_pos (by omega)]
  · rw [if_neg hik]; by_cases h2 : i < k
    · rw [if_pos h2, if_pos (by omega)]
    · rw [if_neg h2, if_neg (by omega)]
theorem upd_int (f : Nat → Int) (i : Nat) (v : Int) : upd (fun j => Value.int .i64 (f j)) i (.int .i64 v) = fun j => Value.int .i64 (upd f i v j) := by
  funext j; unfold upd; split <;> rfl
theorem shRun_succ (j : Nat) (f : Nat → Int) (t : Int) : shRun (j + 1) (f, t) = shRun j (upd (upd f (j + 1) (f (belV ((j : Int) + 2) t).toNat)) (belV ((j : Int) + 2) t).toNat (f (j + 1)), belS ((j : Int) + 2) t) := rfl
set_option maxHeartbeats 4000000 in
theorem dshuffle_any (D : Nat) (s : Int) (m : Nat) (w : World) (h : DS w D s) (hs : U64 s) (hm : 1 ≤ m ∧ m ≤ 1000) :
    Calls Try.prog 39 #[dptr D, .int .i64 m] w (Shuffled w D m (shRun (m - 1) (iotaF, s)).1 (shRun (m - 1) (iotaF, s)).2) := by
  refine opq fun R HR => ?_
  have H := Lib.hid h
  have HM : D < w.heap.size := h.lt
  clear h
  obtain ⟨hm1, hm2⟩ := hm
  obtain ⟨i0, hi, hz0, hz1, hz2⟩ := info_parts info3
  have hz2' : i0.bytes * m ≤ 281474976710656 := by rw [hz2]; omega
  have hmx : m ≤ maxLen := by unfold maxLen; omega
  have HI := Lib.hid hi
  have HZ0 := Lib.hid hz0
  have HZ1 := Lib.hid hz1
  clear hi hz0 hz1 hz2
  go_enter Try.func39, Try.ntmps39
  go_wp2_with (at_make; refine wpList_make_full w rfl _ _ 40 rfl w.heap.size 3 i0 (.int .i64 0) 1 Try.underlying40 HI.out HZ0.out HZ1.out .i64 .i64 _ _ m rfl rfl rfl rfl hz2' hmx (Nat.le_refl _) ?_; intro w1 hown hgrow)
  obtain ⟨g, cap, hv, hbg, _, hrow⟩ := RowV.of_owns hown (by omega)
  obtain rfl : w.heap.size = g := by injection hv with h1; injection h1 with h2; injection h2
  clear hv hown
  have M : Same w w1 := (Mod.refl _ w).grown hgrow (fun k hk => by cases hk)
  have hD := H.out.mod M (fun q => q)
  replace hrow : RowI w1 w.heap.size m (fun i => if i < 0 then i else 0) := by
    rw [Nat.mul_one] at hrow
    exact hrow.congr (fun i hi => by rw [made_get m i hi]; rfl)
  clear hgrow hbg H
  have hne : ¬ w.heap.size = D := by omega
  have HMD := Lib.hid HM
  clear HM
  go_wp2_with fail
  go_loopw [17, 6] (fun t _ wr => ∃ k : Nat, k ≤ m ∧ t = .int .i64 k ∧ RowI wr w.heap.size m (fun i => if i < k then i else 0) ∧ DS wr D s ∧ Same w wr) (fun t _ _ => m - (intOf t).toNat)
  case atStart => exact ⟨0, by omega, rfl, hrow, hD, M⟩
  case round =>
    clear hrow hD M
    obtain ⟨k, hk, rfl, hrow, hD, M⟩ := hrel
    by_cases hlt : k < m
    · have hck := hrow.cell k hlt
      have hfr := hrow.free
      have J1 := Lib.hid hrow
      have J2 := Lib.hid hD
      have J3 := Lib.hid M
      clear hrow hD M
      go_wp2
      go_roundw
      case rel =>
        exact ⟨k + 1, by omega, by go_num, (J1.out.set k hlt (.int .i64 k)).congr fun i hi => iota_step k i, J2.out.set_far hne _, J3.out.setCell (fun q => absurd q (Nat.lt_irrefl _)) _⟩
      case measure => simp [intOf]; omega
    · obtain rfl : k = m := by omega
      clear hlt hk
      replace hrow : RowI wr w.heap.size k iotaF := hrow.congr fun i hi => by simp only [if_pos hi]; rfl
      have M' : Mod (fun i => i = D) w wr := M.mono (fun i _ q => q.elim)
      clear M
      go_wp2_with fail
      go_loopw [7, 8] (fun t _ wr => ∃ (j : Nat) (f : Nat → Int) (z : Int), j < k ∧ t = .int .i64 j ∧ shRun j (f, z) = shRun (k - 1) (iotaF, s) ∧ U64 z ∧ RowI wr w.heap.size k f ∧ DS wr D z ∧ Mod (fun i => i = D) w wr) (fun t _ _ => (intOf t).toNat)
      case atStart => exact ⟨k - 1, iotaF, s, by omega, by congr 1; omega, rfl, hs, hrow, hD, M'⟩
      case round =>
        clear hrow hD M'
        obtain ⟨j, f, z, hj, rfl, hrun, hz, hrow, hD, M⟩ := hrel
        have HRN := Lib.hid hrun
        clear hrun
        by_cases hj0 : j = 0
        · subst hj0
          have J1 := Lib.hid hrow
          have J2 := Lib.hid hD
          have J3 := Lib.hid M
          clear hrow hD M
          go_wp2
          refine HR.out _ _ ⟨_, _, rfl, fun _ => ⟨_, rfl, Nat.le_refl _, ?_⟩, ?_, J3.out⟩
          · rw [← HRN.out]; exact J1.out
          · rw [← HRN.out]; exact J2.out
        · obtain ⟨j', rfl⟩ : ∃ j', j = j' + 1 := ⟨j - 1, by omega⟩
          have hbd := belV_bd ((j' : Int) + 2) z
          have HT := dbelow_any D z ((j' : Int) + 2) wr hD hz (by omega)
          have hst := belS_u ((j' : Int) + 2) z hz
          have hss := HRN.out
          rw [shRun_succ] at hss
          generalize belS ((j' : Int) + 2) z = z' at *
          generalize belV ((j' : Int) + 2) z = q' at *
          obtain ⟨q, rfl⟩ : ∃ q : Nat, q' = q := ⟨q'.toNat, by omega⟩
          rw [Int.toNat_natCast] at hss
          have HSS := Lib.hid hss
          have HT' := Lib.hid HT
          have hq : q < j' + 2 := by omega
          clear hss HT HRN hbd
          go_wp2_with fail
          rw [show ((j' : Int) + 1 + 1) = (j' : Int) + 2 from by omega]
          refine HT'.out.mono ?_
          rintro e w5 ⟨rfl, hD5, M5⟩
          replace hrow := hrow.mod M5 hne
          have M6 : Mod (fun i => i = D) w w5 := M.trans M5
          have hcj := hrow.cell (j' + 1) hj
          have hcq := hrow.cell q (by omega)
          have hfr := hrow.free
          have J1 := Lib.hid hrow
          have J2 := Lib.hid hD5
          have J3 := Lib.hid M6
          clear hrow hD5 M6 M5 M hD HT'
          have hge : w.heap.size < w.heap.size → w.heap.size = D := fun q => absurd q (Nat.lt_irrefl _)
          by_cases hqj : q = j' + 1
          · subst hqj
            have J4 := ((J1.out.set (j' + 1) hj (.int .i64 (f (j' + 1)))).set (j' + 1) (by omega) (.int .i64 (f (j' + 1)))).drew
            rw [upd_int, upd_int] at J4
            replace J4 := Lib.hid J4
            go_wp2_with fail
            go_region
            go_wp2
            go_roundw
            case rel => exact ⟨j', _, z', by omega, by go_num, HSS.out, hst, J4.out, J2.out.set_far hne _ |>.set_far hne _ |>.drew, (J3.out.setCell hge _).setCell hge _ |>.drew⟩
            case measure => simp [intOf]
          · have hqj' : ¬ j' + 1 = q := fun e => hqj e.symm
            have J4 := ((J1.out.set (j' + 1) hj (.int .i64 (f q))).set q (by omega) (.int .i64 (f (j' + 1)))).drew
            rw [upd_int, upd_int] at J4
            replace J4 := Lib.hid J4
            go_wp2_with fail
            go_region
            go_wp2
            go_roundw
            case rel => exact ⟨j', _, z', by omega, by go_num, HSS.out, hst, J4.out, J2.out.set_far hne _ |>.set_far hne _ |>.drew, (J3.out.setCell hge _).setCell hge _ |>.drew⟩
            case measure => simp [intOf]
end Go.Proofs.Ytifkdjecdmmegaa
