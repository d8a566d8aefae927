import Derived.Test.YtifkdjecdmmegaaAlarmG
set_option linter.unusedSimpArgs false
set_option linter.unusedVariables false
namespace Go.Proofs.Ytifkdjecdmmegaa
open Go Go.RowKit
def Ints' (w : World) (a : Option Addr) (len : Nat) : Prop := 0 < len → ∃ b o, a = some ⟨b, o, none⟩ ∧ b < w.heap.size ∧ ∀ i, i < len → ∃ z, w.cell? ⟨b, o + i, none⟩ = some (.int .i64 z) ∧ (Lit.int .i64 z).wf = true
set_option maxRecDepth 100000 in
set_option maxHeartbeats 4000000 in
theorem alarmExact_bad (wm fm bk : Int) (a1 a2 : Option Addr) (l1 c1 l2 c2 : Nat) (w : World) (hl1 : l1 ≤ 9223372036854775807) (hl2 : l2 ≤ 9223372036854775807) (h1 : Ints' w a1 l1) (h2 : Ints' w a2 l2) (hg : goodB wm fm bk = false) :
    Calls Try.prog 7 #[.agg #[.int .i64 wm, .int .i64 fm, .int .i64 bk], .slice a1 l1 c1, .slice a2 l2 c2] w fun e w' => e = .returned (.bool true) ∧ Below w.heap.size w w' := by
  refine opq fun R HR => ?_
  have HG := Lib.hid hg
  have H1 := Lib.hid h1
  have H2 := Lib.hid h2
  clear hg h1 h2
  go_enter Try.func7, Try.ntmps7
  go_wp2_with fail
  refine (aawake_any _).mono ?_
  rintro e w1 ⟨rfl, hb⟩
  have hx := (Blk.new w #[.int .i64 wm, .int .i64 fm, .int .i64 bk] 39).mod hb (fun q => q)
  have M := ((Mod.refl (fun _ => False) w).alloc _).same hb
  clear hb
  have hxc := hx.cell
  go_wp2_with fail
  refine (new_bad _ _ _ _ HG.out).mono ?_
  rintro e w2 ⟨rfl, M2⟩
  replace hx := hx.mod M2 (fun q => q)
  replace M := M.same M2
  clear M2 hxc
  have hxc := hx.cell
  go_wp2_with fail
  refine (rgood_any _ _ _ _).mono ?_
  rintro e w3 ⟨rfl, rfl⟩
  rw [HG.out]
  go_wp2_with fail
  refine (good_any _ _ _ _).mono ?_
  rintro e w3 ⟨rfl, M2⟩
  rw [HG.out]
  replace M := M.same M2
  clear M2 hxc hx
  go_wp2_with fail
  go_loopw [9, 10, 11] (fun st rg i wr => ∃ (k : Nat), st = .int .i64 0 ∧ rg = .int .i64 0 ∧ i = .int .i64 k ∧ k ≤ 100 ∧ Same w wr) (fun _ _ i _ => 100 - (intOf i).toNat)
  case atStart => exact ⟨0, rfl, rfl, rfl, by omega, M⟩
  case round =>
    clear M
    obtain ⟨k, rfl, rfl, rfl, hk, M⟩ := hrel
    by_cases hlt : k < l1 ∧ k < l2 ∧ k < 100
    · obtain ⟨k1, k2, k3⟩ := hlt
      obtain ⟨b1, o1, rfl, hb1, hc1⟩ := H1.out (by omega)
      obtain ⟨b2, o2, rfl, hb2, hc2⟩ := H2.out (by omega)
      obtain ⟨u, hu, _⟩ := hc1 k k1
      obtain ⟨v, hv, _⟩ := hc2 k k2
      clear hc1 hc2
      rw [← M.cell hb1 (fun q => q)] at hu
      rw [← M.cell hb2 (fun q => q)] at hv
      have hk100 : ((k : Int) < 100) := by omega
      have hlo1 : (0:Int) ≤ (k:Int) := by omega
      have hlt1 : (k:Int) < (l1:Int) := by omega
      have hlt2 : (k:Int) < (l2:Int) := by omega
      have MM := Lib.hid M
      clear M
      go_wp2_with fail
      go_region_held3 (fun w' => w'.cell? ⟨b1, o1 + k, none⟩ = some (.int .i64 u) ∧ w'.cell? ⟨b2, o2 + k, none⟩ = some (.int .i64 v)) (first | exact ⟨hu, hv⟩ | assumption | exact ⟨by assumption, by assumption⟩ | go_keep) ((
        go_at_call 25
        refine (tell_nil _ _ _).mono ?_
        rintro e w4 ⟨rfl, rfl⟩))
      go_wp2_with (first | (go_at_call 28; refine (state_nil _).mono ?_; rintro e w5 ⟨rfl, rfl⟩) | (go_at_call 26; refine (rung_nil _).mono ?_; rintro e w5 ⟨rfl, rfl⟩))
      go_roundw
      case rel => exact ⟨k + 1, rfl, rfl, by go_num, by omega, MM.out.drew⟩
      case measure => simp [intOf]; omega
    · have hfin := Lib.hid (Same.below M)
      go_wp2
      all_goals (first | exact HR.out _ _ ⟨rfl, hfin.out⟩ | trace_state)
end Go.Proofs.Ytifkdjecdmmegaa
