import Derived.Test.YtifkdjecdmmegaaAlarmG
import Derived.Test.YtifkdjecdmmegaaAlarmE
import Derived.StillTailTactics
set_option linter.unusedSimpArgs false
set_option linter.unusedVariables false
namespace Go.Proofs.Ytifkdjecdmmegaa
open Go Go.RowKit
theorem quiet_eq {P : Program} {f : FuncId} {args : Array Value} {w : World} {n : Nat} {v : Value}
    (h : Calls P f args (w.drewN n) fun e w' => e = .returned v ∧ w.drewN n = w') : Calls P f args (w.drewN n) fun e w'' => e = .returned v ∧ ∃ m, w'' = w.drewN m :=
  h.mono fun _ _ ⟨he, hm⟩ => ⟨he, n, hm.symm⟩
/-- A slice of ints that came in. -/
def Ints (w : World) (a : Option Addr) (len : Nat) : Prop := 0 < len → ∃ b o, a = some ⟨b, o, none⟩ ∧ b < w.heap.size ∧ ∀ i, i < len → ∃ z, w.cell? ⟨b, o + i, none⟩ = some (.int .i64 z) ∧ (Lit.int .i64 z).wf = true
theorem goodI_of {a b c : Int} (h : goodB a b c = true) : goodI a b c := by unfold goodB at h; simpa [goodI] using h
set_option maxRecDepth 100000 in
set_option maxHeartbeats 4000000 in
theorem alarmExact_good (wm fm bk : Int) (a1 a2 : Option Addr) (l1 c1 l2 c2 : Nat) (w : World) (hl1 : l1 ≤ 9223372036854775807) (hl2 : l2 ≤ 9223372036854775807) (h1 : Ints w a1 l1) (h2 : Ints w a2 l2) (hg : goodB wm fm bk = true) :
    Calls Try.prog 7 #[.agg #[.int .i64 wm, .int .i64 fm, .int .i64 bk], .slice a1 l1 c1, .slice a2 l2 c2] w fun e w' => e = .returned (.bool true) ∧ Below w.heap.size w w' := by
  refine opq fun R HR => ?_
  have hgi := Lib.hid (goodI_of hg)
  have HG := Lib.hid hg
  have H1 := Lib.hid h1
  have H2 := Lib.hid h2
  clear hg h1 h2
  go_enter Try.func7, Try.ntmps7
  go_wp2_with fail
  refine (aawake_any _).mono ?_
  rintro e w1 ⟨rfl, hb⟩
  have hx := (Blk.new w #[.int .i64 wm, .int .i64 fm, .int .i64 bk] 39).mod hb (fun q => q)
  have M := ((Mod.refl (fun _ => False) w).alloc _).same hb
  clear hb
  have hxc := hx.cell
  go_wp2_with fail
  refine (new_good _ _ _ _ HG.out).mono ?_
  rintro e w2 ⟨g, rfl, hgg, hB, M2⟩
  have hgw : w.heap.size < g := by have := hx.lt; omega
  clear hgg
  replace hx := hx.mod M2 (fun q => q)
  replace M := M.same M2
  clear M2 hxc
  have hxc := hx.cell
  go_wp2_with fail
  refine (rgood_any _ _ _ _).mono ?_
  rintro e w3 ⟨rfl, rfl⟩
  rw [HG.out]
  go_wp2_with fail
  refine (good_any _ _ _ _).mono ?_
  rintro e w3 ⟨rfl, M2⟩
  rw [HG.out]
  replace hx := hx.mod M2 (fun q => q)
  replace hB := hB.mod M2 (fun q => q)
  replace M := M.same M2
  clear M2 hxc
  go_wp2_with fail
  go_loopw [9, 10, 11] (fun st rg i wr => ∃ (s r : Int) (k : Nat), st = .int .i64 s ∧ rg = .int .i64 r ∧ i = .int .i64 k ∧ 0 ≤ s ∧ s ≤ 2 ∧ 0 ≤ r ∧ r ≤ k ∧ k ≤ 100 ∧ Blk wr g (alc wm fm bk s r) ∧ Blk wr w.heap.size #[.int .i64 wm, .int .i64 fm, .int .i64 bk] ∧ Same w wr) (fun _ _ i _ => 100 - (intOf i).toNat)
  case atStart => exact ⟨0, 0, 0, rfl, rfl, rfl, by omega, by omega, by omega, by omega, by omega, hB, hx, M⟩
  case round =>
    clear hB hx M
    obtain ⟨s, r, k, rfl, rfl, rfl, hs0, hs2, hr0, hrk, hk, hB, hx, M⟩ := hrel
    by_cases hlt : k < l1 ∧ k < l2 ∧ k < 100
    · obtain ⟨k1, k2, k3⟩ := hlt
      obtain ⟨b1, o1, rfl, hb1, hc1⟩ := H1.out (by omega)
      obtain ⟨b2, o2, rfl, hb2, hc2⟩ := H2.out (by omega)
      obtain ⟨u, hu, _⟩ := hc1 k k1
      obtain ⟨v, hv, _⟩ := hc2 k k2
      clear hc1 hc2
      rw [← M.cell hb1 (fun q => q)] at hu
      rw [← M.cell hb2 (fun q => q)] at hv
      have hk100 : ((k : Int) < 100) := by omega
      have hgi' := hgi.out
      go_wp2_with fail
      have hn := nextA_bd wm fm bk s (clF u) (clF v)
      have HN := fun wz : World => rnext_any wm fm bk s u v wz hgi.out ⟨hs0, hs2⟩
      have HT := tell_any g wm fm bk s r u v wr.drew hB.drew hgi.out ⟨hs0, hs2⟩ (by omega)
      generalize nextA wm fm bk s (clF u) (clF v) = n at *
      have HN' := Lib.hid HN
      have HT' := Lib.hid HT
      clear HN HT
      have hb1g : b1 ≠ g := by omega
      have hb2g : b2 ≠ g := by omega
      have hW1 : b1 < wr.drew.heap.size := Nat.lt_of_lt_of_le hb1 M.size
      have hW2 : b2 < wr.drew.heap.size := Nat.lt_of_lt_of_le hb2 M.size
      have HX := Lib.hid hx.drew
      have HM := Lib.hid M.drew
      clear hx M hB
      have hlo1 : (0:Int) ≤ (k:Int) := by omega
      have hlt1 : (k:Int) < (l1:Int) := by omega
      have hlt2 : (k:Int) < (l2:Int) := by omega
      go_region_held3 (fun w' => w'.cell? ⟨b1, o1 + k, none⟩ = some (.int .i64 u) ∧ w'.cell? ⟨b2, o2 + k, none⟩ = some (.int .i64 v)) (first | exact ⟨hu, hv⟩ | assumption | exact ⟨by assumption, by assumption⟩ | go_keep) ((
        go_at_call 25
        refine HT'.out.mono ?_
        rintro e w4 ⟨rfl, hB4, M4⟩
        have hu4 := (M4.cell hW1 hb1g (o1 + k)).trans hu
        have hv4 := (M4.cell hW2 hb2g (o2 + k)).trans hv
        have hx4 := HX.out.mod M4 (fun q => by omega)
        have hM4 : Same w w4 := HM.out.then_ M4 (fun i h1 h2 => by omega)))
      have hxc := hx4.cell
      go_wp2_with fail
      go_quiet ((go_at_call 29; exact quiet_eq (HN'.out _)))
      clear hxc hu hv hu4 hv4 H1 H2
      have hx5 := Lib.hid (hx4.drewN nq)
      have MM := Lib.hid (hM4.drewN nq)
      clear hx4 hM4 M4
      by_cases hsn : s < n
      all_goals
        first
        | (have hrf : rungF s n r = r + 1 := if_pos hsn)
        | (have hrf : rungF s n r = r := if_neg hsn)
        rw [hrf] at hB4
        clear hrf
        have HB := Lib.hid (hB4.drewN nq)
        clear hB4
        go_wp2_with (first | (go_at_call 28; refine (state_any _ _ _ _ _ _ _ HB.out).mono ?_; rintro e w5 ⟨rfl, rfl⟩) | (go_at_call 26; refine (rung_any _ _ _ _ _ _ _ HB.out).mono ?_; rintro e w5 ⟨rfl, rfl⟩))
        go_roundw
        case rel => exact ⟨n, _, k + 1, rfl, rfl, by go_num, hn.1, hn.2, by omega, by omega, by omega, HB.out, hx5.out, MM.out⟩
        case measure => simp [intOf]; omega
    · clear hB hx
      have hfin := Lib.hid (Same.below M)
      go_wp2
      all_goals (first | exact HR.out _ _ ⟨rfl, hfin.out⟩ | trace_state)
end Go.Proofs.Ytifkdjecdmmegaa
