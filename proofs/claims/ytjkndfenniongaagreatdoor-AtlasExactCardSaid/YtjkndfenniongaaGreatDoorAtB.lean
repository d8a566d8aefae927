import Derived.Test.YtjkndfenniongaaGreatDoorAtA
import Derived.Test.YtjkndfenniongaaGreatDoorShelfA
import Derived.Lib.AppendIntMem
set_option linter.unusedSimpArgs false
set_option linter.unusedVariables false
set_option maxRecDepth 10000
/- A device is read. -/
namespace Go.Proofs.YtjkndfenniongaaGreatDoor
open Go Go.RowKit Go.Maps
theorem law3 : Keyed Tryz.prog 3 := int_keyed Tryz.underlying3
theorem sector_any {B : Nat} {w : World} {d m lb : Nat} {u : Int} {S : List (List UInt8)} (h : Dev B w d m lb u S (.map [])) (i : Nat) (s : List UInt8) (hi : S[i]? = some s) :
    Calls Tryz.prog 54 #[bp d, .int .i64 (i : Int)] w fun e w' => e = .returned (strV s) ∧ w' = w := by
  refine opq fun R HR => ?_
  have hlt := (List.getElem?_eq_some_iff.1 hi).1
  have hl := h.len
  obtain ⟨v, ps, hrun, hv⟩ := h.loose.look_ok law3 Tryz.underlying111 (Tryz.zeroValue9 w) (plainElem_string Tryz.underlying9 (s := ⟨#[]⟩) (by decide)) (keyOf_int_mk Tryz.underlying3 (a := (i : Int)) (WalkArith.wf_i64 (by omega)))
  rw [show Maps.has (.map [] : DataW Unit) (.int .i64 (i : Int)) = false from rfl] at hrun
  obtain ⟨a, c, hb, hs⟩ := h.disc
  obtain ⟨g, rfl, _, _, _, hr⟩ := hs (by omega)
  have e1 := hb.at_ (i := 1) _ rfl
  have e2 := hb.at_ (i := 2) _ rfl
  have e3 := hr.cell i hlt
  rw [show S.getD i [] = s by rw [List.getD_eq_getElem?_getD, hi]; rfl] at e3
  unfold strV at e3 HR
  clear h hb hs hr hv hi
  generalize S.length = sl at *
  go_enter Tryz.func54, Tryz.ntmps54
  go_wp2
  exact HR.out _ _ ⟨rfl, rfl⟩
def joinS : List (List UInt8) → List UInt8
  | [] => []
  | s :: S => s ++ joinS S
theorem joinS_snoc (S : List (List UInt8)) (s : List UInt8) : joinS (S ++ [s]) = joinS S ++ s := by
  induction S with
  | nil => simp [joinS]
  | cons x S ih => simp [joinS, ih]
theorem joinS_len (S : List (List UInt8)) (h : ∀ s ∈ S, s.length ≤ 16) : (joinS S).length ≤ 16 * S.length := by
  induction S with
  | nil => simp [joinS]
  | cons x S ih =>
    have h1 := h x (by simp)
    have h2 := ih (fun s hs => h s (by simp [hs]))
    simp [joinS]; omega
theorem new78 (w : World) : Lib.IsBuilderF 78 5 w.heap.size w.heap.size (Lib.byteCells []) (w.alloc (.cells #[.pointer none, .slice none 0 0] 78)) :=
  .of (.inl ⟨Nat.le_refl _, .slice none 0 0, heap_new _ _, World.ownsRow_nil _ _ _ _, by simp [Value.ownBlock]⟩)
theorem mid_snoc {S : List (List UInt8)} {at_ k : Nat} {s : List UInt8} (h : S[at_ + k]? = some s) : (S.drop at_).take (k + 1) = (S.drop at_).take k ++ [s] := by
  rw [List.take_add_one, List.getElem?_drop, h]; rfl
set_option maxHeartbeats 2000000 in
theorem read_any {B : Nat} {w : World} {d m lb : Nat} {u : Int} {S : List (List UInt8)} (h : Dev B w d m lb u S (.map [])) (hS : ∀ s ∈ S, s.length ≤ 16) (at_ n : Nat) (hat : at_ ≤ 1000000) (hn : n ≤ 1000) (hin : at_ + n ≤ S.length) :
    Calls Tryz.prog 33 #[bp d, .int .i64 (at_ : Int), .int .i64 (n : Int)] w fun e w' => e = .returned (.tuple #[strV (joinS ((S.drop at_).take n)), .int .i64 0]) ∧ Same w w' := by
  refine opq fun R HR => ?_
  have HD := Lib.hid h
  have HS := Lib.hid hS
  have HH := Lib.hid (has_any h at_ n (by omega) (by omega))
  have HO := Lib.hid (on_any m u w h.main)
  have HIn := Lib.hid hin
  obtain ⟨a, c, hb, _⟩ := h.disc
  have e0 := hb.at_ (i := 0) _ rfl
  have hl := h.len
  rw [decide_eq_true hin] at HH
  clear h hS hb hin
  go_enter Tryz.func33, Tryz.ntmps33
  go_wp2_with fail
  refine HH.out.mono ?_
  rintro e w1 ⟨rfl, rfl⟩
  go_wp2_with fail
  refine HO.out.mono ?_
  rintro e w2 ⟨rfl, rfl⟩
  clear HH HO e0
  go_wp2_with fail
  go_loopw [27, 9] (fun vi _ wr => ∃ k : Nat, k ≤ n ∧ vi = .int .i64 (k : Int) ∧ Lib.IsBuilderF 78 5 w2.heap.size w2.heap.size (Lib.byteCells (joinS ((S.drop at_).take k))) wr ∧ Same w2 wr) (fun vi _ _ => n - (intOf vi).toNat)
  case atStart => exact ⟨0, by omega, rfl, by simpa [joinS] using new78 w2, (Mod.refl _ _).alloc _⟩
  case round =>
    obtain ⟨k, hk, rfl, hbu, M⟩ := hrel
    have J := Lib.hid M
    have KB := Lib.hid hbu
    clear M hbu
    by_cases hlt : k < n
    · have hin2 := HIn.out
      obtain ⟨s, hs⟩ : ∃ s, S[at_ + k]? = some s := ⟨_, List.getElem?_eq_getElem (by omega)⟩
      have hs16 := HS.out s (List.mem_of_getElem? hs)
      have hlen := joinS_len ((S.drop at_).take k) (fun x hx => HS.out x (List.mem_of_mem_drop (List.mem_of_mem_take hx)))
      have hlen2 : ((S.drop at_).take k).length ≤ k := List.length_take_le _ _
      have HSe := Lib.hid (sector_any (HD.out.same J.out) (at_ + k) s hs)
      have hw1 : IntKind.i64.wrap ((at_ : Int) + (k : Int)) = ((at_ + k : Nat) : Int) := by rw [IntWalk.i64_in _ (by omega)]; omega
      have hsn := mid_snoc hs
      have HSn := Lib.hid (show joinS ((S.drop at_).take (k + 1)) = joinS ((S.drop at_).take k) ++ s by rw [hsn, joinS_snoc])
      clear hs hsn hin2
      generalize joinS ((S.drop at_).take k) = acc at *
      go_wp2_with fail
      refine HSe.out.mono ?_
      rintro e w3 ⟨rfl, rfl⟩
      unfold strV
      go_wp2_with fail
      refine (Tryz.Builder_WriteString_k w2.heap.size w2.heap.size (Lib.byteCells acc) ⟨s.toArray⟩ w3 KB.out (by rw [Lib.byteCells_length, bytes_size]; omega) J.out.size).mono ?_
      rintro e w4 ⟨rfl, hb4, hbl, _⟩
      rw [Lib.strCells_toArray, ← Lib.byteCells_append] at hb4
      have P1 := Lib.hid (Same.of_below (J.out.below.trans hbl))
      have P2 := Lib.hid hb4
      clear hb4 hbl
      go_wp2_with fail
      go_roundw
      case rel => exact ⟨k + 1, by omega, by go_num, by rw [HSn.out]; exact .inr P2.out, P1.out⟩
      case measure => simp [intOf]; omega
    · obtain rfl : n = k := by omega
      go_wp2_with fail
      refine (Tryz.Builder_String_any_k w2.heap.size w2.heap.size _ wr KB.out J.out.size).mono ?_
      rintro e w3 ⟨rfl, _, hbl, _⟩
      have P1 := Lib.hid (Same.of_below (J.out.below.trans hbl))
      clear hbl
      go_wp2
      exact HR.out _ _ ⟨rfl, P1.out⟩
end Go.Proofs.YtjkndfenniongaaGreatDoor
