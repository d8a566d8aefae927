import Derived.Test.YtlcepoagpocadaaGreatDoorMgJ
set_option linter.unusedSimpArgs false
set_option linter.unusedVariables false
set_option maxRecDepth 100000
/- Whether sectors are zeros. -/
namespace Go.Proofs.YtlcepoagpocadaaGreatDoor
open Go Go.RowKit
theorem nz_any (w : World) (x : List UInt8) : Calls Tryz.prog 124 #[.string ⟨x.toArray⟩] w fun e w' => e = .returned (.bool (x != zero16)) ∧ Same w w' := by
  refine opq fun R HR => ?_
  go_enter Tryz.func124, Tryz.ntmps124
  go_wp2_with fail
  refine (zero_any _).mono ?_
  rintro e w1 ⟨rfl, hM⟩
  have M := Lib.hid hM
  clear hM
  unfold strV
  go_wp2
  exact HR.out _ _ ⟨by simp [bne], M.out⟩
set_option maxHeartbeats 4000000 in
theorem idxNz_any (w : World) (v1 : Value) (xs : List (List UInt8)) (h1 : TxS w v1 xs) (hl : xs.length ≤ 1000000) :
    Calls Tryz.prog 145 #[v1, .func (.func 124) #[] #[]] w fun e w' => ∃ i : Int, e = .returned (.int .i64 i) ∧ decide (0 ≤ i) = !xs.all (fun x => x == zero16) ∧ -1 ≤ i ∧ i ≤ 1000000 ∧ Same w w' := by
  refine opq fun R HR => ?_
  obtain ⟨a1, c1, rfl, k1⟩ := h1.ex
  have K1 := Lib.hid k1
  obtain ⟨n1, hn1⟩ : ∃ n, xs.length = n := ⟨_, rfl⟩
  rw [hn1] at K1 hl ⊢
  have N1 := Lib.hid hn1
  clear h1 k1 hn1
  go_enter Tryz.func145, Tryz.ntmps145
  go_wp2_with fail
  go_loopw [8] (fun i wr => ∃ j : Nat, j ≤ n1 ∧ i = .int .i64 j ∧ (∀ x ∈ xs.take j, x = zero16) ∧ Same w wr) (fun i _ => n1 - (intOf i).toNat)
  case atStart => exact ⟨0, Nat.zero_le _, rfl, by simp, Mod.refl _ _⟩
  case round =>
    obtain ⟨j, hj, rfl, ht, hM⟩ := hrel
    have HT := Lib.hid ht
    have J := Lib.hid hM
    clear ht hM
    by_cases hlt : j < n1
    · obtain ⟨x, hx⟩ : ∃ x, xs[j]? = some x := ⟨_, List.getElem?_eq_getElem (by rw [N1.out]; exact hlt)⟩
      obtain ⟨g1, rfl, r1⟩ := K1.out (by omega)
      have q1 := ((r1.mod J.out (fun q => q)).cell j hlt).trans (show _ = some (Value.string ⟨x.toArray⟩) by unfold txF; rw [List.getD_eq_getElem?_getD, hx]; rfl)
      have tk : xs.take (j + 1) = xs.take j ++ [x] := by
        obtain ⟨h1, h2⟩ := List.getElem?_eq_some_iff.1 hx
        rw [List.take_succ_eq_append_getElem h1, h2]
      have TK := Lib.hid tk
      have HX := Lib.hid hx
      clear tk hx r1
      have hi0 : (0 : Int) ≤ (j : Int) := by omega
      have hi1 : (j : Int) < (n1 : Int) := by omega
      go_wp2_with fail
      refine (nz_any _ x).mono ?_
      rintro e w1 ⟨rfl, hM⟩
      have M1 := Lib.hid (J.out.same hM)
      clear hM
      by_cases hxy : x = zero16
      · have hb : (x != zero16) = false := by rw [hxy]; rfl
        rw [hb]
        go_wp2_with fail
        go_roundw
        case rel => exact ⟨j + 1, by omega, by go_num, by rw [TK.out]; intro y hy; rcases List.mem_append.1 hy with hy | hy; exact HT.out y hy; rw [List.mem_singleton.1 hy, hxy], M1.out⟩
        case measure => simp [intOf]; omega
      · have hb : (x != zero16) = true := by simpa using hxy
        rw [hb]
        go_wp2
        refine HR.out _ _ ⟨(j : Int), rfl, ?_, by omega, by omega, M1.out⟩
        have hd : xs.all (fun x => x == zero16) = false := by
          rw [List.all_eq_false]
          exact ⟨x, List.mem_of_getElem? HX.out, by simpa using hxy⟩
        rw [hd]
        simp
    · obtain rfl : j = n1 := by omega
      have hd : xs.all (fun x => x == zero16) = true := by
        have := HT.out
        rw [List.take_of_length_le (by rw [N1.out]; exact Nat.le_refl _)] at this
        rw [List.all_eq_true]
        intro x hx
        simpa using this x hx
      go_wp2
      exact HR.out _ _ ⟨-1, rfl, by rw [hd]; rfl, by omega, by omega, J.out⟩
theorem hasNz_any (w : World) (v1 : Value) (xs : List (List UInt8)) (h1 : TxS w v1 xs) (hl : xs.length ≤ 1000000) :
    Calls Tryz.prog 123 #[v1, .func (.func 124) #[] #[]] w fun e w' => e = .returned (.bool (!xs.all (fun x => x == zero16))) ∧ Same w w' := by
  refine opq fun R HR => ?_
  have H1 := Lib.hid h1
  clear h1
  go_enter Tryz.func123, Tryz.ntmps123
  go_wp2_with fail
  refine (idxNz_any _ v1 xs H1.out hl).mono ?_
  rintro e w1 ⟨i, rfl, hi, hi0, hi1, hM⟩
  have M := Lib.hid hM
  have HI := Lib.hid hi
  clear hM hi
  go_wp2
  exact HR.out _ _ ⟨by rw [← HI.out]; rfl, M.out⟩
set_option maxHeartbeats 1000000 in
theorem isZero_any (w : World) (v1 : Value) (xs : List (List UInt8)) (h1 : TxS w v1 xs) (hl : xs.length ≤ 1000000) :
    Calls Tryz.prog 101 #[v1] w fun e w' => e = .returned (.bool (xs.all (fun x => x == zero16))) ∧ Same w w' := by
  refine opq fun R HR => ?_
  have H1 := Lib.hid h1
  clear h1
  go_enter Tryz.func101, Tryz.ntmps101
  go_wp2_with fail
  refine (hasNz_any _ v1 xs H1.out hl).mono ?_
  rintro e w1 ⟨rfl, hM⟩
  have M := Lib.hid hM
  clear hM
  go_wp2
  exact HR.out _ _ ⟨by simp, M.out⟩
end Go.Proofs.YtlcepoagpocadaaGreatDoor
