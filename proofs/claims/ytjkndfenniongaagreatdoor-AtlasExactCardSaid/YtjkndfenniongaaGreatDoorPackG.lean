import Derived.Test.YtjkndfenniongaaGreatDoorPackF
set_option linter.unusedSimpArgs false
set_option linter.unusedVariables false
namespace Go.Proofs.YtjkndfenniongaaGreatDoor
open Go Go.RowKit
theorem take_bytes (s : ByteArray) (k : Nat) : s.extract 0 k = ⟨(s.data.toList.take k).toArray⟩ := by
  apply ByteArray.ext
  rw [ByteArray.data_extract]
  apply Array.ext'
  simp [Array.toList_extract, List.extract_eq_take_drop]
theorem drop_bytes (s : ByteArray) (k : Nat) : s.extract k s.size = ⟨(s.data.toList.drop k).toArray⟩ := by
  apply ByteArray.ext
  rw [ByteArray.data_extract]
  apply Array.ext'
  simp [Array.toList_extract, List.extract_eq_take_drop]
  rw [List.take_of_length_le]
  rw [List.length_drop, size_toList]; exact Nat.le_refl _
/-- The bytes ahead of a sum that is theirs. -/
def openL (l : List UInt8) : Option (List UInt8) := if l.length < 4 then none else if sealL (l.take (l.length - 4)) = l then some (l.take (l.length - 4)) else none
theorem sealL_len (l : List UInt8) : (sealL l).length = l.length + 4 := by unfold sealL; rw [List.length_append, leB_len]
theorem openL_sealL (l : List UInt8) : openL (sealL l) = some l := by
  have e : (sealL l).take ((sealL l).length - 4) = l := by
    rw [sealL_len, Nat.add_sub_cancel]; unfold sealL; exact List.take_left' rfl
  unfold openL
  rw [e, if_neg (by rw [sealL_len]; omega), if_pos rfl]
theorem bytes_size (l : List UInt8) : (⟨l.toArray⟩ : ByteArray).size = l.length := List.size_toArray
set_option maxRecDepth 10000 in
theorem open_any (l : List UInt8) (w : World) (hs : l.length ≤ 100000000000000) : Calls Tryz.prog 75 #[.string ⟨l.toArray⟩] w fun e w' => e = .returned (match openL l with | none => .tuple #[.string ⟨#[]⟩, .bool false] | some t => .tuple #[.string ⟨t.toArray⟩, .bool true]) ∧ Same w w' := by
  refine opq fun R HR => ?_
  have hll := bytes_size l
  by_cases h4 : l.length < 4
  · have e : openL l = none := by unfold openL; rw [if_pos h4]
    rw [e] at HR
    go_enter Tryz.func75, Tryz.ntmps75
    go_wp2_with fail
    exact HR.out _ _ ⟨rfl, Mod.refl _ _⟩
  · have HSe := Lib.hid (fun t w (h : t.size ≤ 100000000000000) => seal_any t w h)
    have et : (⟨l.toArray⟩ : ByteArray).extract 0 (l.length - 4) = ⟨(l.take (l.length - 4)).toArray⟩ := take_bytes _ _
    have ES := Lib.hid et
    clear et
    go_enter Tryz.func75, Tryz.ntmps75
    go_wp2_with fail
    rw [ES.out]
    unfold openL at HR
    rw [if_neg h4] at HR
    refine (HSe.out _ _ ?_).mono ?_
    · rw [bytes_size, List.length_take]; omega
    rintro e w1 ⟨rfl, M⟩
    have K1 := Lib.hid M
    clear M HSe ES
    have e1 : (⟨(l.take (l.length - 4)).toArray⟩ : ByteArray).data.toList = l.take (l.length - 4) := rfl
    rw [e1]
    generalize l.take (l.length - 4) = t at *
    clear e1
    by_cases hq : sealL t = l
    · rw [if_pos hq] at HR
      have hq2 : (sealL t == l) = true := by rw [hq]; simp
      rw [hq]
      go_wp2
      exact HR.out _ _ ⟨rfl, K1.out⟩
    · rw [if_neg hq] at HR
      have hq2 : (sealL t == l) = false := by simp [hq]
      go_wp2
      exact HR.out _ _ ⟨rfl, K1.out⟩
end Go.Proofs.YtjkndfenniongaaGreatDoor
