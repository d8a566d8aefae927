import Derived.Test.YtlcepoagpocadaaGreatDoorMgH
set_option linter.unusedSimpArgs false
set_option linter.unusedVariables false
set_option maxRecDepth 100000
/- The sectors that a text tells of a place; whether sectors are zeros. -/
namespace Go.Proofs.YtlcepoagpocadaaGreatDoor
open Go Go.RowKit
theorem one_str (b : ByteArray) : ∀ u ∈ [Value.string b], u.oneCell' = true := fun u hu => by simp at hu; subst hu; rfl
def toldL (k : Nat) (s : List UInt8) (p : Nat) : List (List UInt8) := (List.range k).map fun i => (s.drop ((p * k + i) * 16)).take 16
theorem toldL_take (k : Nat) (s : List UInt8) (p i : Nat) (h : i < k) : (toldL k s p).take (i + 1) = (toldL k s p).take i ++ [(s.drop ((p * k + i) * 16)).take 16] := by
  unfold toldL
  rw [List.take_add_one, List.getElem?_map, List.getElem?_range h]
  rfl
theorem toldL_len (k : Nat) (s : List UInt8) (p : Nat) : (toldL k s p).length = k := by unfold toldL; simp
set_option maxHeartbeats 8000000 in
theorem told_any (w : World) (m vm k p : Nat) (l : List UInt8) (hm : Blk w m #[.int .i64 (k : Int), .map (some vm)]) (hk1 : 1 ≤ k) (hk8 : k ≤ 8) (hp : p < 64) (hl : (p + 1) * k * 16 ≤ l.length) (hl2 : l.length ≤ 1000000) :
    Calls Tryz.prog 100 #[bp m, .string ⟨l.toArray⟩, .int .i64 (p : Int)] w fun e w' => ∃ g cap, e = .returned (.slice (some ⟨g, 0, none⟩) k cap) ∧ RowV w' g k (txF (toldL k l p)) ∧ w.heap.size ≤ g ∧ Same w w' := by
  refine opq fun R HR => ?_
  obtain ⟨i0, hi, hz0, hz1, hz2⟩ := info_parts info9
  have I0 := Lib.hid hi
  have Z0 := Lib.hid hz0
  have Z1 := Lib.hid hz1
  have Z2 := Lib.hid hz2
  have HMB := Lib.hid hm
  have k0 := hm.at_ (i := 0) (.int .i64 (k : Int)) rfl
  obtain ⟨q, hq⟩ : ∃ q, p * k = q := ⟨_, rfl⟩
  have hqb : q ≤ 63 * 8 := by rw [← hq]; exact Nat.mul_le_mul (by omega) hk8
  have hqk : (q + k) * 16 ≤ l.length := by rw [Nat.add_mul, Nat.one_mul, hq] at hl; exact hl
  have hwm : IntKind.i64.wrap ((p : Int) * (k : Int)) = (q : Int) := by
    rw [show (p : Int) * (k : Int) = ((p * k : Nat) : Int) by simp, hq]; exact IntWalk.i64_in _ (by omega)
  have HQ := Lib.hid hq
  clear hi hz0 hz1 hz2 hm hl hq
  go_enter Tryz.func100, Tryz.ntmps100
  go_wp2_with fail
  go_loopw [14, 7] (fun i v wr => ∃ j : Nat, j ≤ k ∧ i = .int .i64 j ∧ wr.ownsRow w.heap.size 9 1 v j (((toldL k l p).take j).map strV) ∧ Same w wr) (fun i _ _ => k - (intOf i).toNat)
  case atStart => exact ⟨0, Nat.zero_le _, rfl, World.ownsRow_nil _ _ _ _, Mod.refl _ _⟩
  case round =>
    obtain ⟨j, hj, rfl, hown, hM⟩ := hrel
    have OX := Lib.hid hown
    have J := Lib.hid hM
    have hsz := hM.size
    clear hown hM
    by_cases hlt : j < k
    · have k1 := (HMB.out.mod J.out (fun q => q)).at_ (i := 0) (.int .i64 (k : Int)) rfl
      have TK := Lib.hid (toldL_take k l p j hlt)
      have hex : (⟨l.toArray⟩ : ByteArray).extract ((q + j) * 16) ((q + j) * 16 + 16) = ⟨((l.drop ((q + j) * 16)).take 16).toArray⟩ := by
        apply ByteArray.ext
        rw [ByteArray.data_extract]
        apply Array.ext'
        simp [Array.toList_extract, List.extract_eq_take_drop]
      rw [HQ.out] at TK
      obtain ⟨sec, hsec⟩ : ∃ z, (l.drop ((q + j) * 16)).take 16 = z := ⟨_, rfl⟩
      rw [hsec] at TK hex
      clear hsec
      have hb1 : (q + j) * 16 + 16 ≤ l.length := by omega
      go_wp2_with (at_builtin; refine wpList_append_own _ rfl (.tmp 26) (.tmp 32) 32 rfl w.heap.size 9 i0 (.string ⟨#[]⟩) 1 16 Tryz.underlying32 I0.out Z0.out Z1.out Z2.out rfl (by decide) _ _ _ rfl (OX.out.alloc _) ⟨wr.heap.size, 0, none⟩ 1 1 [.string ⟨sec.toArray⟩] rfl rfl (one_new wr (.string ⟨sec.toArray⟩) 9) (one_str _) (by unfold maxLen; omega) (by omega) (by simp only [World.size_alloc]; omega) ?_; intro v3 w3 hown' hgrow _; have OW := Lib.hid hown'; have MG := Lib.hid (same_append J.out OX.out hgrow); clear hown' hgrow)
      have OW2 := OW.out
      have OW3 := Lib.hid (show w3.ownsRow w.heap.size 9 1 v3 (j + 1) (((toldL k l p).take (j + 1)).map strV) by rw [TK.out, List.map_append]; exact OW2)
      clear OW2 OW
      go_roundw
      case rel => exact ⟨j + 1, by omega, by go_num, OW3.out, MG.out⟩
      case measure => simp [intOf]; omega
    · obtain rfl : j = k := by omega
      have hO := OX.out
      rw [List.take_of_length_le (by rw [toldL_len]; exact Nat.le_refl _)] at hO
      obtain ⟨g, cap, rfl, hb, hc, hrow⟩ := RowV.of_owns hO hk1
      rw [Nat.mul_one] at hrow
      go_wp2
      exact HR.out _ _ ⟨g, cap, rfl, hrow.congr (fun i hi => txF_map _ i (by rw [toldL_len]; exact hi)), hb, J.out⟩
end Go.Proofs.YtlcepoagpocadaaGreatDoor
