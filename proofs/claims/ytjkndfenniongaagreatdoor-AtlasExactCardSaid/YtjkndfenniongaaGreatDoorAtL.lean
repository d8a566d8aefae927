import Derived.Test.YtjkndfenniongaaGreatDoorAtK
set_option linter.unusedSimpArgs false
set_option linter.unusedVariables false
set_option maxRecDepth 100000
/- atlas.Look where nothing is, and where there is no tree. -/
namespace Go.Proofs.YtjkndfenniongaaGreatDoor
open Go Go.RowKit
theorem look_bad {B : Nat} {w : World} {d m lb : Nat} {u : Int} {S : List (List UInt8)} (h : Dev B w d m lb u S (.map [])) (hS : ∀ s ∈ S, s.length = 16) (ho : openS S = none) :
    Calls Tryz.prog 6 #[bp d] w fun e w' => e = .returned (.tuple #[.slice none 0 0, .int .i64 3]) ∧ Same w w' := by
  refine opq fun R HR => ?_
  have HO := Lib.hid (open_store h hS)
  unfold OpenP at HO
  rw [ho] at HO
  dsimp only at HO
  clear h
  go_enter Tryz.func6, Tryz.ntmps6
  go_wp2_with fail
  refine HO.out.mono ?_
  rintro e w1 ⟨rfl, M⟩
  go_wp2
  exact HR.out _ _ ⟨rfl, M⟩
theorem blankL_kinds (n : Nat) : ∀ x ∈ blankL n, x.k = 72 ∨ x.k = 46 := by
  intro x hx
  unfold blankL at hx
  obtain ⟨i, _, rfl⟩ := List.mem_map.1 hx
  by_cases q : i = 0
  · left; simp [q, pgH]
  · right; simp [q, pgF]
theorem blankL_len (n : Nat) : (blankL n).length = n := by unfold blankL; simp
set_option maxHeartbeats 4000000 in
theorem look0_any {B : Nat} {w : World} {d m lb : Nat} {u : Int} {S : List (List UInt8)} (h : Dev B w d m lb u S (.map [])) (hS : ∀ s ∈ S, s.length = 16) (hh : Hd) (i : Nat) (ho : openS S = some (hh, i)) (h0 : hh.root = 0) :
    Calls Tryz.prog 6 #[bp d] w fun e w' => (∃ a c, e = .returned (.tuple #[.slice a (min (S.length / 16) 512) c, .int .i64 0]) ∧ Pgs w' a (blankL (min (S.length / 16) 512))) ∧ Same w w' := by
  refine opq fun R HR => ?_
  have HO := Lib.hid (open_store h hS)
  have HD := Lib.hid h
  have hnp : 1 < min (S.length / 16) 512 := by
    unfold openS at ho
    by_cases q : min (S.length / 16) 512 ≤ 1
    · rw [if_pos q] at ho; cases ho
    · omega
  have hn5 : min (S.length / 16) 512 ≤ 512 := by omega
  unfold OpenP at HO
  rw [ho] at HO
  dsimp only at HO
  clear h ho
  go_enter Tryz.func6, Tryz.ntmps6
  go_wp2_with fail
  refine HO.out.mono ?_
  rintro e w1 ⟨⟨s, kb, fb, rfl, hst⟩, M⟩
  have ST := Lib.hid hst
  have D1 := Lib.hid (HD.out.same M)
  have K1 := Lib.hid M
  clear M hst HO HD
  have HPg := Lib.hid (spages_any ST.out D1.out)
  generalize hnn : min (S.length / 16) 512 = n at *
  go_wp2_with fail
  refine HPg.out.mono ?_
  rintro e w2 ⟨rfl, rfl⟩
  clear HPg D1
  go_wp2_with fail
  refine (blank_any n hn5 (by omega) w2).mono ?_
  rintro e w3 ⟨⟨a, c, rfl, hp⟩, M⟩
  have PG := Lib.hid hp
  have K3 := Lib.hid (K1.out.same M)
  have S3 := Lib.hid (ST.out.same M)
  clear M hp K1 ST
  have HH := Lib.hid (shead_any S3.out)
  obtain ⟨gen, root, s0, s1, ch⟩ := hh
  dsimp only at h0
  subst h0
  dsimp only [hdV, hdC] at HH
  go_wp2_with fail
  refine HH.out.mono ?_
  rintro e w4 ⟨rfl, M⟩
  have K4 := Lib.hid (K3.out.same M)
  have S4 := Lib.hid (S3.out.same M)
  have P4 := Lib.hid (PG.out.same M)
  clear M K3 S3 PG HH
  go_wp2_with fail
  refine (reach0_any _ w4).mono ?_
  rintro e w5 ⟨rfl, M⟩
  have K5 := Lib.hid (K4.out.same M)
  have S5 := Lib.hid (S4.out.same M)
  have P5 := Lib.hid (P4.out.same M)
  clear M K4 S4 P4
  go_wp2_with fail
  refine (maps0_any S5.out rfl _).mono ?_
  rintro e w6 ⟨rfl, M⟩
  have K6 := Lib.hid (K5.out.same M)
  have S6 := Lib.hid (S5.out.same M)
  have P6 := Lib.hid (P5.out.same M)
  clear M K5 S5 P5
  have HFi := Lib.hid (fun (sv : Value) w' (M : Same w6 w') => fill0_any sv a c (blankL n) (blankL_kinds n) (by rw [blankL_len]; omega) w' (P6.out.same M))
  rw [blankL_len] at HFi
  go_wp2_with fail
  go_loopw [37, 9] (fun vi _ wr => vi = .int .i64 0 ∧ wr = w6) (fun _ _ _ => 0)
  case atStart => exact ⟨rfl, rfl⟩
  case round =>
    obtain ⟨rfl, rfl⟩ := hrel
    go_wp2_with fail
    refine (HFi.out _ wr (Mod.refl _ _)).mono ?_
    rintro e w7 ⟨rfl, M⟩
    have K7 := Lib.hid (K6.out.same M)
    have P7 := Lib.hid (P6.out.same M)
    clear M K6 P6 HFi
    go_wp2
    exact HR.out _ _ ⟨⟨a, c, rfl, P7.out⟩, K7.out⟩
end Go.Proofs.YtjkndfenniongaaGreatDoor
