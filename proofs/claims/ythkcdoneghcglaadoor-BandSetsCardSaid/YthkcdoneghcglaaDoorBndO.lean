import Derived.Test.YthkcdoneghcglaaDoorBndN
set_option linter.unusedSimpArgs false
set_option linter.unusedVariables false
/- band.Union, Meet, Less; the document's In. -/
namespace Go.Proofs.YthkcdoneghcglaaDoor
open Go Go.RowKit
def fUn (_ _ : Bool) : Bool := true
def fMe (x y : Bool) : Bool := x && y
def fLe (x y : Bool) : Bool := x && !y
section
variable (a b : Option Addr) (ca cb : Nat) (A B : List Int) (w : World) (hla : A.length ≤ 100000) (hlb : B.length ≤ 100000) (hA : Ins w a A) (hB : Ins w b B) (hbn : b = none → cb = 0)
include hla hlb hA hB hbn
theorem union_any : Calls Tryd.prog 25 #[.slice a A.length ca, .slice b B.length cb] w fun e w' => SoV fUn A B e w' ∧ Same w w' := by
  refine opq fun R HR => ?_
  go_enter Tryd.func25, Tryd.ntmps25
  go_wp2_with fail
  refine (some_any 51 (by omega) fUn (fun x y w => c51_any x y w) a b ca cb A B w hla hlb hA hB hbn).mono ?_
  rintro e w1 ⟨⟨a', c', rfl, h1, h2⟩, M⟩
  go_wp2
  exact HR.out _ _ ⟨⟨a', c', rfl, h1, h2⟩, M⟩
theorem meet_any : Calls Tryd.prog 26 #[.slice a A.length ca, .slice b B.length cb] w fun e w' => SoV fMe A B e w' ∧ Same w w' := by
  refine opq fun R HR => ?_
  go_enter Tryd.func26, Tryd.ntmps26
  go_wp2_with fail
  refine (some_any 52 (by omega) fMe (fun x y w => c52_any x y w) a b ca cb A B w hla hlb hA hB hbn).mono ?_
  rintro e w1 ⟨⟨a', c', rfl, h1, h2⟩, M⟩
  go_wp2
  exact HR.out _ _ ⟨⟨a', c', rfl, h1, h2⟩, M⟩
theorem less_any : Calls Tryd.prog 27 #[.slice a A.length ca, .slice b B.length cb] w fun e w' => SoV fLe A B e w' ∧ Same w w' := by
  refine opq fun R HR => ?_
  go_enter Tryd.func27, Tryd.ntmps27
  go_wp2_with fail
  refine (some_any 53 (by omega) fLe (fun x y w => c53_any x y w) a b ca cb A B w hla hlb hA hB hbn).mono ?_
  rintro e w1 ⟨⟨a', c', rfl, h1, h2⟩, M⟩
  go_wp2
  exact HR.out _ _ ⟨⟨a', c', rfl, h1, h2⟩, M⟩
end
set_option maxHeartbeats 2000000 in
theorem in_any (a : Option Addr) (c : Nat) (L : List Int) (x : Int) (w : World) (hl : L.length ≤ 1000000) (hI : Ins w a L) : Calls Tryd.prog 28 #[.slice a L.length c, .int .i64 x] w fun e w' => e = .returned (.bool (L.contains x)) ∧ Same w w' := by
  refine opq fun R HR => ?_
  have HI := Lib.hid hI
  clear hI
  obtain ⟨n, hn⟩ : ∃ n, L.length = n := ⟨_, rfl⟩
  rw [hn] at hl ⊢
  have HN := Lib.hid hn
  clear hn
  go_enter Tryd.func28, Tryd.ntmps28
  go_wp2_with fail
  go_loopw [5] (fun i wr => ∃ k : Nat, k ≤ n ∧ i = .int .i64 k ∧ x ∉ L.take k ∧ Same w wr) (fun i _ => n - (intOf i).toNat)
  case atStart => exact ⟨0, by omega, rfl, by simp, Mod.refl _ _⟩
  case round =>
    obtain ⟨k, hk, rfl, hno, M⟩ := hrel
    have J := Lib.hid M
    have HNo := Lib.hid hno
    clear M hno
    by_cases hlt : k < n
    · obtain ⟨b1, o1, rfl, hb1, hc1⟩ := HI.out (by rw [HN.out]; omega)
      obtain ⟨y, hy⟩ : ∃ y, L[k]? = some y := ⟨_, List.getElem?_eq_getElem (by rw [HN.out]; exact hlt)⟩
      have e0 := (J.out.cell hb1 (fun q => q) _).trans (hc1 k y hy)
      have HY := Lib.hid hy
      clear hc1 hy
      by_cases hxy : y = x
      · have hb : (y == x) = true := by simp [hxy]
        have hct : L.contains x = true := by rw [List.contains_iff_mem, ← hxy]; exact List.mem_of_getElem? HY.out
        rw [hct] at HR
        have hb2 : (x == x) = true := by simp
        clear hct
        subst hxy
        go_wp2
        exact HR.out _ _ ⟨rfl, J.out⟩
      · have hb : (y == x) = false := beqF hxy
        have HN2 := Lib.hid (show x ∉ L.take (k + 1) by
          rw [List.take_add_one, HY.out, List.mem_append]
          rintro (h | h)
          · exact HNo.out h
          · simp at h; exact hxy h.symm)
        clear hxy
        go_wp2_with fail
        go_roundw
        case rel => exact ⟨k + 1, by omega, by go_num, HN2.out, J.out⟩
        case measure => simp [intOf]; omega
    · obtain rfl : k = n := by omega
      have hct : L.contains x = false := by
        have := HNo.out
        rw [List.take_of_length_le (by rw [HN.out]; exact Nat.le_refl _)] at this
        simpa using this
      rw [hct] at HR
      clear hct
      go_wp2
      exact HR.out _ _ ⟨rfl, J.out⟩
end Go.Proofs.YthkcdoneghcglaaDoor
