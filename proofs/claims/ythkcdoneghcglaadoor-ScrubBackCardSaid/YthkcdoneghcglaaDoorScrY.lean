import Derived.Test.YthkcdoneghcglaaDoorScrE
import Derived.Deep.RegionHeld3
set_option linter.unusedSimpArgs false
set_option linter.unusedVariables false
/- The law's form and same. -/
namespace Go.Proofs.YthkcdoneghcglaaDoor
open Go Go.RowKit
set_option maxRecDepth 10000 in
set_option maxHeartbeats 8000000 in
theorem form_any (a : Option Addr) (cap : Nat) (L : List Sm) (w : World) (hl : L.length ≤ 1000) (hI : Sms w a L) :
    Calls Tryd.prog 9 #[.slice a L.length cap] w fun e w' => (∃ a' c', e = .returned (.slice a' L.length c') ∧ Sms w' a' L) ∧ Same w w' := by
  refine opq fun R HR => ?_
  have HI := Lib.hid hI
  clear hI
  obtain ⟨i0, hi, hz0, hz1, hz2⟩ := info_parts info65
  have HI0 := Lib.hid hi
  have HZ0 := Lib.hid hz0
  have HZ1 := Lib.hid hz1
  have HZ2 := Lib.hid hz2
  clear hi hz0 hz1 hz2
  obtain ⟨n, hn⟩ : ∃ n, L.length = n := ⟨_, rfl⟩
  rw [hn] at hl HR ⊢
  have HN := Lib.hid hn
  clear hn
  go_enter Tryd.func9, Tryd.ntmps9
  go_wp2_with fail
  go_loopw [4, 3] (fun i v wr => ∃ k : Nat, k ≤ n ∧ i = .int .i64 k ∧ wr.ownsRow w.heap.size 65 4 v (L.take k).length ((L.take k).flatMap smC) ∧ Same w wr) (fun i _ _ => n - (intOf i).toNat)
  case atStart => exact ⟨0, by omega, rfl, empty_owns w _ _ _ (Nat.le_refl _), (Mod.refl _ _).alloc _⟩
  case round =>
    obtain ⟨k, hk, rfl, hown, M⟩ := hrel
    by_cases hlt : k < n
    · obtain ⟨b1, o1, rfl, hb1, hc1⟩ := HI.out (by rw [HN.out]; omega)
      have hkL : k < L.length := by rw [HN.out]; exact hlt
      obtain ⟨x, hx⟩ : ∃ x, L[k]? = some x := ⟨_, List.getElem?_eq_getElem hkL⟩
      have htk : L.take (k + 1) = L.take k ++ [x] := by rw [List.take_add_one, hx]; rfl
      have HC := Lib.hid (fun (W : World) (M : Same w W) (i : Nat) (y : Sm) (hy : L[i]? = some y) => cell4_same M hb1 (hc1 i y hy))
      obtain ⟨e0, e1, e2, e3⟩ := HC.out _ M k x hx
      have HX := Lib.hid hx
      have HT := Lib.hid htk
      have hll0 : (L.take k).length ≤ k := List.length_take_le _ _
      have J1 := Lib.hid hown
      have J2 := Lib.hid M
      have hsz : w.heap.size ≤ wr.heap.size := M.size
      clear hc1 hx htk hown M
      obtain ⟨xc, xt, xs, xh⟩ := x
      dsimp only at e0 e1 e2 e3
      have hll : (L.take k).length + 1 ≤ maxLen := by unfold maxLen; omega
      have hlm : ((L.take k).length + 1) * 32 ≤ 140737488355328 := by omega
      generalize hlz : (L.take k).length = lz at *
      have hbw : b1 < wr.heap.size := by omega
      have hkA : Cell4 (wr.drew.alloc (.cells #[.int .i64 xc, .int .i64 xt, .int .i64 xs, .int .u32 (xh : Int)] 65)) b1 (o1 + k * 4) ⟨xc, xt, xs, xh⟩ := cell4_same (((Mod.refl (fun _ => False) wr).drew).alloc _) hbw ⟨e0, e1, e2, e3⟩
      go_wp2_with fail
      go_region_held3 (fun w' => Cell4 w' b1 (o1 + k * 4) ⟨xc, xt, xs, xh⟩) (first | exact ⟨e0, e1, e2, e3⟩ | assumption | exact q6 | exact hkA | go_keep) ((first | (refine step_append_lies _ rfl (.tmp 12) (.tmp 29) 24 rfl w.heap.size 65 i0 (.agg #[.int .i64 0, .int .i64 0, .int .i64 0, .int .u32 0]) 4 32 Tryd.underlying24 HI0.out HZ0.out HZ1.out HZ2.out rfl (by decide) _ _ _ (by simp [Act.eval, Act.put]) (J1.out.drew.alloc _) ⟨wr.heap.size, 0, none⟩ 1 1 (smC ⟨xc, xt, xs, xh⟩) (by simp [Act.eval, Act.put]) rfl (new4 _ ⟨xc, xt, xs, xh⟩ _) (fun u hu => (by simp at hu; rcases hu with rfl | rfl | rfl | rfl <;> rfl)) (by decide) hll hlm (by simp [World.size_alloc]; omega) (wr.heap.size + 1) (by simp) ?_; intro g cp w6 hown' hgrow hat hgl; have q6 := HC.out _ (same_append J2.out.drew J1.out.drew hgrow) k _ HX.out)))
      have P1 := Lib.hid (same_append J2.out.drew J1.out.drew hgrow)
      have P2 := Lib.hid hown'
      clear hown' hgrow hat
      go_wp2
      go_roundw
      case rel => exact ⟨k + 1, by omega, by go_num, by rw [HT.out, List.length_append, List.flatMap_append, hlz]; exact P2.out, P1.out⟩
      case measure => simp [intOf]; omega
    · obtain rfl : k = n := by omega
      have hall : L.take k = L := List.take_of_length_le (by rw [HN.out]; exact Nat.le_refl _)
      rw [hall] at hown
      obtain ⟨a', c', rfl, hits⟩ := sms_own hown
      rw [HN.out]
      have J1 := Lib.hid hits
      have J2 := Lib.hid M
      clear hown hits M hall
      go_wp2
      exact HR.out _ _ ⟨⟨_, _, rfl, J1.out⟩, J2.out⟩
end Go.Proofs.YthkcdoneghcglaaDoor
