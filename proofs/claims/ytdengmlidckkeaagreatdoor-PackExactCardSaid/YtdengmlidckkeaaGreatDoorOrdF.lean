import Derived.Test.YtdengmlidckkeaaGreatDoorOrdE
set_option linter.unusedSimpArgs false
set_option linter.unusedVariables false
namespace Go.Proofs.YtdengmlidckkeaaGreatDoor
open Go Go.RowKit
/-- A wide digit stands at the head. -/
def isWide (a b c : UInt8) : Bool := a == 239 && b == 188 && decide (144 ≤ c.toNat) && decide (c.toNat ≤ 153)
/-- Fullwidth digits as 0 to 9. -/
def plainL : List UInt8 → List UInt8
  | a :: b :: c :: r => if isWide a b c then (48 + c - 144) :: plainL r else a :: plainL (b :: c :: r)
  | a :: r => a :: plainL r
  | [] => []
theorem idx_any (l : List UInt8) (k : Nat) (x : UInt8) (h : l[k]? = some x) (i : Int) (hi : i = (k : Int)) (W : World) : (Instr.index 9 (.string ⟨l.toArray⟩) (.int .i64 i)).run Tryz.prog W = .ok (.int .u8 (x.toNat : Int)) W := by
  obtain ⟨hk, hx⟩ := List.getElem?_eq_some_iff.1 h
  rw [run_index_string W 9 ⟨l.toArray⟩ .i64 i Tryz.underlying9, dif_pos ⟨by omega, by rw [bytes_size]; omega⟩]
  subst hi
  have : (⟨l.toArray⟩ : ByteArray)[(k : Int).toNat]'(by rw [bytes_size]; omega) = x := by rw [← hx]; rfl
  rw [this]
theorem ext1 (l : List UInt8) (k : Nat) (x : UInt8) (h : l[k]? = some x) : (⟨l.toArray⟩ : ByteArray).extract k (k + 1) = ⟨[x].toArray⟩ := by
  obtain ⟨hk, hx⟩ := List.getElem?_eq_some_iff.1 h
  apply ByteArray.ext
  rw [ByteArray.data_extract]
  apply Array.ext'
  simp [Array.toList_extract, List.extract_eq_take_drop]
  rw [List.drop_eq_getElem_cons hk, hx]; rfl
theorem plainL_cons (x : UInt8) (r : List UInt8) (h : ∀ y z r', r = y :: z :: r' → isWide x y z = false) : plainL (x :: r) = x :: plainL r := by
  match r, h with
  | [], _ => rfl
  | [y], _ => rfl
  | y :: z :: r', h => rw [plainL, h y z r' rfl]; rfl
theorem wide_iff (x y z : UInt8) : isWide x y z = true ↔ x.toNat = 239 ∧ y.toNat = 188 ∧ 144 ≤ z.toNat ∧ z.toNat ≤ 153 := by
  unfold isWide
  simp only [Bool.and_eq_true, beq_iff_eq, decide_eq_true_eq, ← UInt8.toNat_inj]
  constructor
  · rintro ⟨⟨⟨h1, h2⟩, h3⟩, h4⟩; exact ⟨h1, h2, h3, h4⟩
  · rintro ⟨h1, h2, h3, h4⟩; exact ⟨⟨⟨h1, h2⟩, h3⟩, h4⟩
set_option maxRecDepth 10000 in
set_option maxHeartbeats 2000000 in
theorem plain_any (l : List UInt8) (hl : l.length ≤ 100000) (w : World) : Calls Tryz.prog 74 #[.string ⟨l.toArray⟩] w fun e w' => e = .returned (.string ⟨(plainL l).toArray⟩) ∧ Same w w' := by
  refine opq fun R HR => ?_
  have hsz := bytes_size l
  go_enter Tryz.func74, Tryz.ntmps74
  go_wp2_with fail
  go_loopw [4, 3] (fun i t wr => ∃ (j : Nat) (a : List UInt8), j ≤ l.length ∧ i = .int .i64 (j : Int) ∧ t = .string ⟨a.toArray⟩ ∧ a ++ plainL (l.drop j) = plainL l ∧ a.length ≤ j ∧ Same w wr) (fun i _ _ => l.length - (intOf i).toNat)
  case atStart => exact ⟨0, [], by omega, rfl, rfl, by simp, by simp, Mod.refl _ _⟩
  case round =>
    obtain ⟨j, a, hj, rfl, rfl, ha, hal, hM⟩ := hrel
    have K1 := Lib.hid hM
    have hbs := bytes_size a
    by_cases hlt : j < l.length
    · obtain ⟨x, hx⟩ : ∃ x, l[j]? = some x := ⟨_, List.getElem?_eq_getElem hlt⟩
      have kx := fun W => idx_any l j x hx (j : Int) rfl W
      have EX := Lib.hid (ext1 l j x hx)
      have hd : l.drop j = x :: l.drop (j + 1) := by obtain ⟨q, rfl⟩ := List.getElem?_eq_some_iff.1 hx; exact List.drop_eq_getElem_cons q
      have EN := Lib.hid (fun (h : ∀ y z r', l.drop (j + 1) = y :: z :: r' → isWide x y z = false) => show (a ++ [x]) ++ plainL (l.drop (j + 1)) = plainL l by rw [← ha, hd, plainL_cons x _ h, List.append_assoc]; rfl)
      have es1 : ((⟨l.toArray⟩ : ByteArray).extract j (j + 1)).size = 1 := by rw [EX.out]; rfl
      by_cases h2 : j + 2 < l.length
      · have hc2 : decide ((j : Int) + 2 < (l.length : Int)) = true := decide_eq_true (by omega)
        obtain ⟨y, hy⟩ : ∃ y, l[j + 1]? = some y := ⟨_, List.getElem?_eq_getElem (by omega)⟩
        obtain ⟨z, hz⟩ : ∃ z, l[j + 2]? = some z := ⟨_, List.getElem?_eq_getElem h2⟩
        have ky := fun W => idx_any l (j + 1) y hy ((j : Int) + 1) (by omega) W
        have kz := fun W => idx_any l (j + 2) z hz ((j : Int) + 2) (by omega) W
        have hd2 : l.drop (j + 1) = y :: z :: l.drop (j + 3) := by
          obtain ⟨q, rfl⟩ := List.getElem?_eq_some_iff.1 hy
          obtain ⟨q2, rfl⟩ := List.getElem?_eq_some_iff.1 hz
          rw [List.drop_eq_getElem_cons q, List.drop_eq_getElem_cons q2]
        have HD2 := Lib.hid hd2
        have HW := Lib.hid (wide_iff x y z)
        have EW := Lib.hid (fun (h : isWide x y z = true) => show (a ++ [48 + z - 144]) ++ plainL (l.drop (j + 3)) = plainL l by rw [← ha, hd, hd2, plainL, if_pos h, List.append_assoc]; rfl)
        have hzb : z.toNat < 256 := z.toNat_lt
        have NW : ¬ (x.toNat = 239 ∧ y.toNat = 188 ∧ 144 ≤ z.toNat ∧ z.toNat ≤ 153) → ∀ y' z' r', l.drop (j + 1) = y' :: z' :: r' → isWide x y' z' = false := by
          intro h y' z' r' e
          rw [hd2] at e
          cases e
          exact Bool.eq_false_iff.2 (fun q => h ((wide_iff x y z).1 q))
        have HNW := Lib.hid NW
        clear ha hM hx hd hy hz hd2 NW
        by_cases a1 : x.toNat = 239
        · by_cases a2 : y.toNat = 188
          · by_cases a3 : 144 ≤ z.toNat
            · by_cases a4 : z.toNat ≤ 153
              · have b1 : ((x.toNat : Int) == 239) = true := by rw [a1]; rfl
                have b2 : ((y.toNat : Int) == 188) = true := by rw [a2]; rfl
                have b3 : decide ((144 : Int) ≤ (z.toNat : Int)) = true := decide_eq_true (by omega)
                have b4 : decide ((z.toNat : Int) ≤ 153) = true := decide_eq_true (by omega)
                have hwide := (wide_iff x y z).2 ⟨a1, a2, a3, a4⟩
                have e1 : IntKind.u8.wrap (48 + (z.toNat : Int)) = 48 + (z.toNat : Int) := by rw [u8wrap]; omega
                have e2 : IntKind.u8.wrap (48 + (z.toNat : Int) - 144) = 48 + (z.toNat : Int) - 144 := by rw [u8wrap]; omega
                have kc := fun (w : World) => conv1 w (48 + (z.toNat : Int) - 144)
                have es : strOfNums [48 + (z.toNat : Int) - 144] = ⟨[48 + z - 144].toArray⟩ := by
                  unfold strOfNums; simp only [List.map_cons, List.map_nil]; congr 3
                  apply UInt8.toNat_inj.1
                  rw [UInt8.toNat_ofNat', UInt8.toNat_sub_of_le, UInt8.toNat_add]
                  · simp; omega
                  · rw [UInt8.le_iff_toNat_le, UInt8.toNat_add]; simp; omega
                have ES := Lib.hid es
                have ess : (strOfNums [48 + (z.toNat : Int) - 144]).size = 1 := strOfNums_size _
                clear es
                generalize strOfNums [48 + (z.toNat : Int) - 144] = sd at *
                go_wp2_with fail
                go_roundw
                case rel => exact ⟨j + 3, a ++ [48 + z - 144], by omega, by go_num, by rw [ES.out, str_app], EW.out hwide, by simp; omega, K1.out.alloc _⟩
                case measure => simp [intOf]; omega
              · have b1 : ((x.toNat : Int) == 239) = true := by rw [a1]; rfl
                have b2 : ((y.toNat : Int) == 188) = true := by rw [a2]; rfl
                have b3 : decide ((144 : Int) ≤ (z.toNat : Int)) = true := decide_eq_true (by omega)
                have b4 : decide ((z.toNat : Int) ≤ 153) = false := decide_eq_false (by omega)
                go_wp2_with fail
                go_roundw
                case rel => exact ⟨j + 1, a ++ [x], by omega, by go_num, by rw [EX.out, str_app], EN.out (by exact HNW.out (fun q => a4 q.2.2.2)), by simp; omega, K1.out⟩
                case measure => simp [intOf]; omega
            · have b1 : ((x.toNat : Int) == 239) = true := by rw [a1]; rfl
              have b2 : ((y.toNat : Int) == 188) = true := by rw [a2]; rfl
              have b3 : decide ((144 : Int) ≤ (z.toNat : Int)) = false := decide_eq_false (by omega)
              go_wp2_with fail
              go_roundw
              case rel => exact ⟨j + 1, a ++ [x], by omega, by go_num, by rw [EX.out, str_app], EN.out (by exact HNW.out (fun q => a3 q.2.2.1)), by simp; omega, K1.out⟩
              case measure => simp [intOf]; omega
          · have b1 : ((x.toNat : Int) == 239) = true := by rw [a1]; rfl
            have b2 : ((y.toNat : Int) == 188) = false := beq_eq_false_iff_ne.2 (by omega)
            go_wp2_with fail
            go_roundw
            case rel => exact ⟨j + 1, a ++ [x], by omega, by go_num, by rw [EX.out, str_app], EN.out (by exact HNW.out (fun q => a2 q.2.1)), by simp; omega, K1.out⟩
            case measure => simp [intOf]; omega
        · have b1 : ((x.toNat : Int) == 239) = false := beq_eq_false_iff_ne.2 (by omega)
          go_wp2_with fail
          go_roundw
          case rel => exact ⟨j + 1, a ++ [x], by omega, by go_num, by rw [EX.out, str_app], EN.out (by exact HNW.out (fun q => a1 q.1)), by simp; omega, K1.out⟩
          case measure => simp [intOf]; omega
      · have hc2 : decide ((j : Int) + 2 < (l.length : Int)) = false := decide_eq_false (by omega)
        have HNW := Lib.hid (show ∀ y z r', l.drop (j + 1) = y :: z :: r' → isWide x y z = false from fun y z r' e => by
          have := congrArg List.length e
          rw [List.length_drop] at this; simp at this; omega)
        clear ha hM hx hd
        go_wp2_with fail
        go_roundw
        case rel => exact ⟨j + 1, a ++ [x], by omega, by go_num, by rw [EX.out, str_app], EN.out (by exact HNW.out), by simp; omega, K1.out⟩
        case measure => simp [intOf]; omega
    · obtain rfl : j = l.length := by omega
      rw [List.drop_length] at ha
      have e : a = plainL l := by rw [← ha]; simp [plainL]
      subst e
      clear ha hM
      go_wp2_with fail
      exact HR.out _ _ ⟨rfl, K1.out⟩
end Go.Proofs.YtdengmlidckkeaaGreatDoor
