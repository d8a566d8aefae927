import Derived.Test.YthkcdoneghcglaaDoorBndG
import Derived.Test.YthkcdoneghcglaaDoorScrM
import Derived.Test.YthkcdoneghcglaaDoorBndE
set_option linter.unusedSimpArgs false
set_option linter.unusedVariables false
/- The document's Text. -/
namespace Go.Proofs.YthkcdoneghcglaaDoor
open Go Go.RowKit
theorem itoa_ne0 (n : Int) : Lib.itoa n ≠ [] := by
  unfold Lib.itoa
  split
  · simp
  · intro h
    have := congrArg List.length h
    unfold Lib.decDigits at this
    split at this <;> simp at this
theorem baL (a b : ByteArray) : (a ++ b).data.toList = a.data.toList ++ b.data.toList := by simp
theorem str_eqs {a b : ByteArray} (h : a.data.toList = b.data.toList) : Value.string a = Value.string b := by
  congr 1; apply ByteArray.ext; exact Array.toList_inj.1 h
/-- What is still to be written behind s. -/
def behind (s : List UInt8) (R : List (Int × Int)) : List UInt8 := if s = [] then textR R else s ++ restT R
theorem behind_step (s : List UInt8) (q : Int × Int) (R : List (Int × Int)) : behind s (q :: R) = behind ((if s = [] then [] else s ++ comma) ++ runT q) R := by
  have hq : runT q ≠ [] := by unfold runT; intro h; have := itoa_ne0 q.1; simp [this] at h
  unfold behind
  by_cases h : s = []
  · rw [if_pos h, if_pos h, if_neg (by simp [hq]), textR_cons]; simp
  · rw [if_neg h, if_neg h, if_neg (by simp [hq]), restT, textR_cons]; simp
theorem behind_end (s : List UInt8) : behind s [] = s := by
  unfold behind textR restT
  split
  · next h => rw [h]; rfl
  · simp
theorem behind_le (s : List UInt8) (R : List (Int × Int)) : s.length ≤ (behind s R).length := by
  unfold behind
  split
  · next h => rw [h]; simp
  · simp
theorem runs_drop {L : List Int} {i : Nat} {x : Int} (h : L[i]? = some x) : runs (L.drop i) = runsF x x (L.drop (i + 1)) := by rw [dropL h]; rfl
theorem runsF_more {L : List Int} {k : Nat} {x b y : Int} (h : L[k]? = some y) (hb : b + 1 = y) : runsF x b (L.drop k) = runsF x y (L.drop (k + 1)) := by rw [dropL h, runsF, if_pos hb]
theorem runsF_stop {L : List Int} {k : Nat} {x b y : Int} (h : L[k]? = some y) (hb : ¬ b + 1 = y) : runsF x b (L.drop k) = (x, b) :: runs (L.drop k) := by
  rw [runs_drop h, dropL h, runsF, if_neg hb]
theorem runsF_end {L : List Int} {k : Nat} {x b : Int} (h : L.length ≤ k) : runsF x b (L.drop k) = (x, b) :: runs (L.drop k) := by
  rw [List.drop_of_length_le h]; rfl
set_option maxRecDepth 10000 in
set_option maxHeartbeats 8000000 in
theorem rtext_any (a : Option Addr) (cap : Nat) (L : List Int) (w : World) (hl : L.length ≤ 100000) (hg : goodI L = true) (hI : Ins w a L) :
    Calls Tryd.prog 21 #[.slice a L.length cap] w fun e w' => e = .returned (strV (textB L)) ∧ Same w w' := by
  refine opq fun R HR => ?_
  have HI := Lib.hid hI
  clear hI
  unfold strV at HR
  by_cases hne : L = []
  · subst hne
    have HR2 := Lib.hid (show ∀ (e : Ending) (w' : World), e = .returned (.string ⟨#[226, 136, 133]⟩) ∧ Same w w' → R e w' from HR.out)
    show Calls Tryd.prog 21 #[.slice a 0 cap] w R
    go_enter Tryd.func21, Tryd.ntmps21
    go_wp2
    exact HR2.out _ _ ⟨rfl, Mod.refl _ _⟩
  · rw [textB_ne hne] at HR
    have hn0 : 0 < L.length := List.length_pos_iff.2 hne
    have HBd := Lib.hid (fun (i : Nat) (x : Int) (hx : L[i]? = some x) => (⟨by have := gI_lo L (-1) hg x (List.mem_of_getElem? hx); omega, gI_hi L (-1) hg x (List.mem_of_getElem? hx)⟩ : 0 ≤ x ∧ x ≤ 9999))
    have HTl := Lib.hid (textR_len (runs L) L.length (runs_len L) (fun p hp => by have := vr_i64 (runs L) (-1) (by decide) (vr_runs hg) p hp; unfold I64; omega))
    clear hg hne
    obtain ⟨n, hn⟩ : ∃ n, L.length = n := ⟨_, rfl⟩
    rw [hn] at hl hn0 HTl ⊢
    have HN := Lib.hid hn
    clear hn
    obtain ⟨b1, o1, rfl, hb1, hc1⟩ := HI.out (by rw [HN.out]; exact hn0)
    have HC := Lib.hid hc1
    clear hc1
    have hb0 : ((n : Int) == 0) = false := beqF (by omega)
    go_enter Tryd.func21, Tryd.ntmps21
    go_wp2_with fail
    go_loopw [4, 3] (fun i v wr => ∃ (k : Nat) (s : List UInt8), k ≤ n ∧ i = .int .i64 k ∧ v = .string ⟨s.toArray⟩ ∧ behind s (runs (L.drop k)) = textR (runs L) ∧ Same w wr) (fun i _ _ => n - (intOf i).toNat)
    case atStart => exact ⟨0, [], by omega, rfl, rfl, by simp [behind], Mod.refl _ _⟩
    case round =>
      obtain ⟨i, s, hk, rfl, rfl, hbe, M⟩ := hrel
      have J := Lib.hid M
      have HB := Lib.hid hbe
      clear M hbe
      by_cases hlt : i < n
      · obtain ⟨x, hx⟩ : ∃ x, L[i]? = some x := ⟨_, List.getElem?_eq_getElem (by rw [HN.out]; exact hlt)⟩
        have hxb := HBd.out i x hx
        have HX := Lib.hid hx
        clear hx
        go_wp2_with fail
        go_loopw [5] (fun v wz => ∃ k : Nat, i ≤ k ∧ k < n ∧ v = .int .i64 k ∧ L[k]? = some (x + ((k : Int) - (i : Int))) ∧ runsF x (x + ((k : Int) - (i : Int))) (L.drop (k + 1)) = runsF x x (L.drop (i + 1)) ∧ Same w wz) (fun v _ => n - (intOf v).toNat)
        case atStart => exact ⟨i, by omega, hlt, rfl, by rw [show x + ((i : Int) - (i : Int)) = x by omega]; exact HX.out, by rw [show x + ((i : Int) - (i : Int)) = x by omega], J.out⟩
        case round =>
          obtain ⟨k, hik, hkn, rfl, hxk, hru, M⟩ := hrel
          have J2 := Lib.hid M
          have HRu := Lib.hid hru
          clear M hru
          have hkb := HBd.out k _ hxk
          have ek := (J2.out.cell hb1 (fun q => q) _).trans (HC.out k _ hxk)
          have ei := (J2.out.cell hb1 (fun q => q) _).trans (HC.out i _ HX.out)
          have HK := Lib.hid hxk
          clear hxk
          obtain ⟨b, hb⟩ : ∃ b : Int, x + ((k : Int) - (i : Int)) = b := ⟨_, rfl⟩
          rw [hb] at ek HRu hkb
          have HBe := Lib.hid hb
          have hbx : (x < b ↔ i < k) := by omega
          clear hb
          have dl1 : (n : Int) = ((n : Nat) : Int) := rfl
          have hwx : IntKind.i64.wrap (b + 1) = b + 1 := IntWalk.i64_in _ (by omega)
          by_cases hn1 : k + 1 < n
          · obtain ⟨y, hy⟩ : ∃ y, L[k + 1]? = some y := ⟨_, List.getElem?_eq_getElem (by rw [HN.out]; exact hn1)⟩
            have ey := (J2.out.cell hb1 (fun q => q) _).trans (HC.out (k + 1) y hy)
            have hw1 : IntKind.i64.wrap ((k : Int) + 1) = ((k + 1 : Nat) : Int) := by rw [show ((k : Int) + 1) = ((k + 1 : Nat) : Int) by omega]; exact IntWalk.i64_in _ (by omega)
            have g1 : decide (((k + 1 : Nat) : Int) < (n : Int)) = true := decide_eq_true (by omega)
            have g2 : decide ((k : Int) + 1 < (n : Int)) = true := decide_eq_true (by omega)
            have g3 : decide (k + 1 < n) = true := decide_eq_true (by omega)
            by_cases hyb : b + 1 = y
            · have HM := Lib.hid (runsF_more (x := x) hy hyb)
              have q1 : (y == b + 1) = true := by subst hyb; simp
              have HY := Lib.hid hy
              have HYB := Lib.hid hyb
              clear hy hyb
              go_wp2_with fail
              go_big_quiet (fail)
              go_wp2
              go_roundw
              case rel =>
                refine ⟨k + 1, by omega, by omega, by go_num, ?_, ?_, J2.out.drewN _⟩
                · have := HBe.out; have := HYB.out; rw [show x + (((k + 1 : Nat) : Int) - (i : Int)) = y by omega]; exact HY.out
                · have := HBe.out; have := HYB.out; rw [show x + (((k + 1 : Nat) : Int) - (i : Int)) = y by omega, ← HM.out]; exact HRu.out
              case measure => simp [intOf]; omega
            · have HM := Lib.hid (runsF_stop (x := x) hy hyb)
              have q1 : (y == b + 1) = false := beqF (fun h => hyb h.symm)
              clear hy hyb
              have hB2 : behind ((if s = [] then [] else s ++ comma) ++ runT (x, b)) (runs (L.drop (k + 1))) = textR (runs L) := by
                rw [← behind_step, ← HM.out, HRu.out, ← runs_drop HX.out]; exact HB.out
              rw [show runT (x, b) = Lib.itoa x ++ (if x < b then thru ++ Lib.itoa b else []) from rfl] at hB2
              clear HM HRu HB
              have hx64 : I64 x := by unfold I64; omega
              have hb64 : I64 b := by unfold I64; omega
              have la := Lib.itoa_length_le x hx64.1 hx64.2
              have lb := Lib.itoa_length_le b hb64.1 hb64.2
              by_cases hs : s = []
              · by_cases hxb2 : x < b
                · subst hs
                  rw [if_pos rfl, List.nil_append] at hB2
                  rw [if_pos hxb2] at hB2
                  have d1 : decide (k > i) = true := decide_eq_true (by omega)
                  have d2 : decide ((k : Int) > (i : Int)) = true := decide_eq_true (by omega)
                  have d3 : decide (i < k) = true := decide_eq_true (by omega)
                  have d4 : decide ((i : Int) < (k : Int)) = true := decide_eq_true (by omega)
                  have HB2 := Lib.hid hB2
                  have hle := Nat.le_trans (behind_le _ _) (Nat.le_of_eq (congrArg List.length hB2))
                  clear hB2
                  try simp only [List.length_append] at hle
                  unfold thru at hle HB2
                  try simp only [List.length_cons, List.length_nil] at hle
                  have hT := HTl.out
                  go_wp2_with fail
                  go_big_quiet (fail)
                  go_wp2_with fail
                  refine (digits_any x hx64 _).mono ?_
                  rintro e w3 ⟨rfl, M⟩
                  have J3 := Lib.hid ((J2.out.drewN nq).same M)
                  clear M
                  have eb := (J3.out.cell hb1 (fun q => q) _).trans (HC.out k _ HK.out)
                  rw [HBe.out] at eb
                  go_wp2_with fail
                  refine (digits_any b hb64 _).mono ?_
                  rintro e w4 ⟨rfl, M⟩
                  have J4 := Lib.hid (J3.out.same M)
                  clear M
                  generalize Lib.itoa x = ix at *
                  generalize Lib.itoa b = ib at *
                  go_wp2_with fail
                  go_roundw
                  case rel =>
                    refine ⟨k + 1, _, by omega, by go_num, ?_, HB2.out, J4.out⟩
                    exact str_eqs (by simp [baL])
                  case measure => simp [intOf]; omega
                · subst hs
                  rw [if_pos rfl, List.nil_append] at hB2
                  rw [if_neg hxb2, List.append_nil] at hB2
                  have d1 : decide (k > i) = false := decide_eq_false (by omega)
                  have d2 : decide ((k : Int) > (i : Int)) = false := decide_eq_false (by omega)
                  have d3 : decide (i < k) = false := decide_eq_false (by omega)
                  have d4 : decide ((i : Int) < (k : Int)) = false := decide_eq_false (by omega)
                  have HB2 := Lib.hid hB2
                  have hle := Nat.le_trans (behind_le _ _) (Nat.le_of_eq (congrArg List.length hB2))
                  clear hB2
                  try simp only [List.length_append] at hle
                  try simp only [List.length_cons, List.length_nil] at hle
                  have hT := HTl.out
                  go_wp2_with fail
                  go_big_quiet (fail)
                  go_wp2_with fail
                  refine (digits_any x hx64 _).mono ?_
                  rintro e w3 ⟨rfl, M⟩
                  have J3 := Lib.hid ((J2.out.drewN nq).same M)
                  clear M
                  generalize Lib.itoa x = ix at *
                  go_wp2_with fail
                  go_roundw
                  case rel =>
                    refine ⟨k + 1, _, by omega, by go_num, ?_, HB2.out, J3.out⟩
                    exact str_eqs (by simp [baL])
                  case measure => simp [intOf]; omega
              · by_cases hxb2 : x < b
                · have hse : s.isEmpty = false := by simpa using hs
                  rw [if_neg hs] at hB2
                  rw [if_pos hxb2] at hB2
                  have d1 : decide (k > i) = true := decide_eq_true (by omega)
                  have d2 : decide ((k : Int) > (i : Int)) = true := decide_eq_true (by omega)
                  have d3 : decide (i < k) = true := decide_eq_true (by omega)
                  have d4 : decide ((i : Int) < (k : Int)) = true := decide_eq_true (by omega)
                  have HB2 := Lib.hid hB2
                  have hle := Nat.le_trans (behind_le _ _) (Nat.le_of_eq (congrArg List.length hB2))
                  clear hB2
                  try simp only [List.length_append] at hle
                  unfold comma at hle HB2
                  unfold thru at hle HB2
                  try simp only [List.length_cons, List.length_nil] at hle
                  have hT := HTl.out
                  go_wp2_with fail
                  go_big_quiet (fail)
                  go_wp2_with fail
                  refine (digits_any x hx64 _).mono ?_
                  rintro e w3 ⟨rfl, M⟩
                  have J3 := Lib.hid ((J2.out.drewN nq).same M)
                  clear M
                  have eb := (J3.out.cell hb1 (fun q => q) _).trans (HC.out k _ HK.out)
                  rw [HBe.out] at eb
                  go_wp2_with fail
                  refine (digits_any b hb64 _).mono ?_
                  rintro e w4 ⟨rfl, M⟩
                  have J4 := Lib.hid (J3.out.same M)
                  clear M
                  generalize Lib.itoa x = ix at *
                  generalize Lib.itoa b = ib at *
                  go_wp2_with fail
                  go_roundw
                  case rel =>
                    refine ⟨k + 1, _, by omega, by go_num, ?_, HB2.out, J4.out⟩
                    exact str_eqs (by simp [baL])
                  case measure => simp [intOf]; omega
                · have hse : s.isEmpty = false := by simpa using hs
                  rw [if_neg hs] at hB2
                  rw [if_neg hxb2, List.append_nil] at hB2
                  have d1 : decide (k > i) = false := decide_eq_false (by omega)
                  have d2 : decide ((k : Int) > (i : Int)) = false := decide_eq_false (by omega)
                  have d3 : decide (i < k) = false := decide_eq_false (by omega)
                  have d4 : decide ((i : Int) < (k : Int)) = false := decide_eq_false (by omega)
                  have HB2 := Lib.hid hB2
                  have hle := Nat.le_trans (behind_le _ _) (Nat.le_of_eq (congrArg List.length hB2))
                  clear hB2
                  try simp only [List.length_append] at hle
                  unfold comma at hle HB2
                  try simp only [List.length_cons, List.length_nil] at hle
                  have hT := HTl.out
                  go_wp2_with fail
                  go_big_quiet (fail)
                  go_wp2_with fail
                  refine (digits_any x hx64 _).mono ?_
                  rintro e w3 ⟨rfl, M⟩
                  have J3 := Lib.hid ((J2.out.drewN nq).same M)
                  clear M
                  generalize Lib.itoa x = ix at *
                  go_wp2_with fail
                  go_roundw
                  case rel =>
                    refine ⟨k + 1, _, by omega, by go_num, ?_, HB2.out, J3.out⟩
                    exact str_eqs (by simp [baL])
                  case measure => simp [intOf]; omega
          · have HM := Lib.hid (runsF_end (x := x) (b := b) (k := k + 1) (L := L) (by rw [HN.out]; omega))
            have g1 : decide (((k + 1 : Nat) : Int) < (n : Int)) = false := decide_eq_false (by omega)
            have g2 : decide ((k : Int) + 1 < (n : Int)) = false := decide_eq_false (by omega)
            have g3 : decide (k + 1 < n) = false := decide_eq_false (by omega)
            have hB2 : behind ((if s = [] then [] else s ++ comma) ++ runT (x, b)) (runs (L.drop (k + 1))) = textR (runs L) := by
              rw [← behind_step, ← HM.out, HRu.out, ← runs_drop HX.out]; exact HB.out
            rw [show runT (x, b) = Lib.itoa x ++ (if x < b then thru ++ Lib.itoa b else []) from rfl] at hB2
            clear HM HRu HB
            have hx64 : I64 x := by unfold I64; omega
            have hb64 : I64 b := by unfold I64; omega
            have la := Lib.itoa_length_le x hx64.1 hx64.2
            have lb := Lib.itoa_length_le b hb64.1 hb64.2
            by_cases hs : s = []
            · by_cases hxb2 : x < b
              · subst hs
                rw [if_pos rfl, List.nil_append] at hB2
                rw [if_pos hxb2] at hB2
                have d1 : decide (k > i) = true := decide_eq_true (by omega)
                have d2 : decide ((k : Int) > (i : Int)) = true := decide_eq_true (by omega)
                have d3 : decide (i < k) = true := decide_eq_true (by omega)
                have d4 : decide ((i : Int) < (k : Int)) = true := decide_eq_true (by omega)
                have HB2 := Lib.hid hB2
                have hle := Nat.le_trans (behind_le _ _) (Nat.le_of_eq (congrArg List.length hB2))
                clear hB2
                try simp only [List.length_append] at hle
                unfold thru at hle HB2
                try simp only [List.length_cons, List.length_nil] at hle
                have hT := HTl.out
                go_wp2_with fail
                go_big_quiet (fail)
                go_wp2_with fail
                refine (digits_any x hx64 _).mono ?_
                rintro e w3 ⟨rfl, M⟩
                have J3 := Lib.hid ((J2.out.drewN nq).same M)
                clear M
                have eb := (J3.out.cell hb1 (fun q => q) _).trans (HC.out k _ HK.out)
                rw [HBe.out] at eb
                go_wp2_with fail
                refine (digits_any b hb64 _).mono ?_
                rintro e w4 ⟨rfl, M⟩
                have J4 := Lib.hid (J3.out.same M)
                clear M
                generalize Lib.itoa x = ix at *
                generalize Lib.itoa b = ib at *
                go_wp2_with fail
                go_roundw
                case rel =>
                  refine ⟨k + 1, _, by omega, by go_num, ?_, HB2.out, J4.out⟩
                  exact str_eqs (by simp [baL])
                case measure => simp [intOf]; omega
              · subst hs
                rw [if_pos rfl, List.nil_append] at hB2
                rw [if_neg hxb2, List.append_nil] at hB2
                have d1 : decide (k > i) = false := decide_eq_false (by omega)
                have d2 : decide ((k : Int) > (i : Int)) = false := decide_eq_false (by omega)
                have d3 : decide (i < k) = false := decide_eq_false (by omega)
                have d4 : decide ((i : Int) < (k : Int)) = false := decide_eq_false (by omega)
                have HB2 := Lib.hid hB2
                have hle := Nat.le_trans (behind_le _ _) (Nat.le_of_eq (congrArg List.length hB2))
                clear hB2
                try simp only [List.length_append] at hle
                try simp only [List.length_cons, List.length_nil] at hle
                have hT := HTl.out
                go_wp2_with fail
                go_big_quiet (fail)
                go_wp2_with fail
                refine (digits_any x hx64 _).mono ?_
                rintro e w3 ⟨rfl, M⟩
                have J3 := Lib.hid ((J2.out.drewN nq).same M)
                clear M
                generalize Lib.itoa x = ix at *
                go_wp2_with fail
                go_roundw
                case rel =>
                  refine ⟨k + 1, _, by omega, by go_num, ?_, HB2.out, J3.out⟩
                  exact str_eqs (by simp [baL])
                case measure => simp [intOf]; omega
            · by_cases hxb2 : x < b
              · have hse : s.isEmpty = false := by simpa using hs
                rw [if_neg hs] at hB2
                rw [if_pos hxb2] at hB2
                have d1 : decide (k > i) = true := decide_eq_true (by omega)
                have d2 : decide ((k : Int) > (i : Int)) = true := decide_eq_true (by omega)
                have d3 : decide (i < k) = true := decide_eq_true (by omega)
                have d4 : decide ((i : Int) < (k : Int)) = true := decide_eq_true (by omega)
                have HB2 := Lib.hid hB2
                have hle := Nat.le_trans (behind_le _ _) (Nat.le_of_eq (congrArg List.length hB2))
                clear hB2
                try simp only [List.length_append] at hle
                unfold comma at hle HB2
                unfold thru at hle HB2
                try simp only [List.length_cons, List.length_nil] at hle
                have hT := HTl.out
                go_wp2_with fail
                go_big_quiet (fail)
                go_wp2_with fail
                refine (digits_any x hx64 _).mono ?_
                rintro e w3 ⟨rfl, M⟩
                have J3 := Lib.hid ((J2.out.drewN nq).same M)
                clear M
                have eb := (J3.out.cell hb1 (fun q => q) _).trans (HC.out k _ HK.out)
                rw [HBe.out] at eb
                go_wp2_with fail
                refine (digits_any b hb64 _).mono ?_
                rintro e w4 ⟨rfl, M⟩
                have J4 := Lib.hid (J3.out.same M)
                clear M
                generalize Lib.itoa x = ix at *
                generalize Lib.itoa b = ib at *
                go_wp2_with fail
                go_roundw
                case rel =>
                  refine ⟨k + 1, _, by omega, by go_num, ?_, HB2.out, J4.out⟩
                  exact str_eqs (by simp [baL])
                case measure => simp [intOf]; omega
              · have hse : s.isEmpty = false := by simpa using hs
                rw [if_neg hs] at hB2
                rw [if_neg hxb2, List.append_nil] at hB2
                have d1 : decide (k > i) = false := decide_eq_false (by omega)
                have d2 : decide ((k : Int) > (i : Int)) = false := decide_eq_false (by omega)
                have d3 : decide (i < k) = false := decide_eq_false (by omega)
                have d4 : decide ((i : Int) < (k : Int)) = false := decide_eq_false (by omega)
                have HB2 := Lib.hid hB2
                have hle := Nat.le_trans (behind_le _ _) (Nat.le_of_eq (congrArg List.length hB2))
                clear hB2
                try simp only [List.length_append] at hle
                unfold comma at hle HB2
                try simp only [List.length_cons, List.length_nil] at hle
                have hT := HTl.out
                go_wp2_with fail
                go_big_quiet (fail)
                go_wp2_with fail
                refine (digits_any x hx64 _).mono ?_
                rintro e w3 ⟨rfl, M⟩
                have J3 := Lib.hid ((J2.out.drewN nq).same M)
                clear M
                generalize Lib.itoa x = ix at *
                go_wp2_with fail
                go_roundw
                case rel =>
                  refine ⟨k + 1, _, by omega, by go_num, ?_, HB2.out, J3.out⟩
                  exact str_eqs (by simp [baL])
                case measure => simp [intOf]; omega
      · obtain rfl : i = n := by omega
        have hs : s = textR (runs L) := by
          have := HB.out
          rw [List.drop_of_length_le (by rw [HN.out]; exact Nat.le_refl _)] at this
          rw [← this]; exact (behind_end s).symm
        have HS := Lib.hid hs
        clear hs HB
        rw [← HS.out] at HR
        go_wp2
        exact HR.out _ _ ⟨rfl, J.out⟩
end Go.Proofs.YthkcdoneghcglaaDoor
