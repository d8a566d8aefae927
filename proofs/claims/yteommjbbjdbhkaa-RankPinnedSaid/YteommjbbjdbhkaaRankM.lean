import Derived.Test.YteommjbbjdbhkaaRankL
set_option linter.unusedSimpArgs false
set_option linter.unusedVariables false
namespace Go.Proofs.Yteommjbbjdbhkaa
open Go Go.RowKit
theorem take_step {L : List It} {pr : It → Bool} {k : Nat} {x : It} (ht : L.take (k + 1) = L.take k ++ [x]) : (L.take (k + 1)).filter pr = if pr x then (L.take k).filter pr ++ [x] else (L.take k).filter pr := by
  rw [ht, List.filter_append]
  cases h : pr x <;> simp [List.filter_cons, h]
set_option maxHeartbeats 4000000 in
theorem rdown_any (a : Option Addr) (cap : Nat) (L : List It) (pick : Int) (w : World) (hl : L.length ≤ 1000) (hI : Its w a L) (hw : Wf L) :
    Calls Try.prog 34 #[.slice a L.length cap, .int .i64 pick] w fun e w' => e = .returned (.int .i64 (downC L pick)) ∧ Same w w' := by
  refine opq fun R HR => ?_
  have HI := Lib.hid hI
  have HV := Lib.hid (hw.filter fastP)
  clear hI hw
  obtain ⟨i0, hi, hz0, hz1, hz2⟩ := info_parts info63
  have HI0 := Lib.hid hi
  have HZ0 := Lib.hid hz0
  have HZ1 := Lib.hid hz1
  have HZ2 := Lib.hid hz2
  clear hi hz0 hz1 hz2
  have hd : downC L pick = downR (L.filter fastP) pick 0 8 := (downR_eq _ _).symm
  rw [hd] at HR
  clear hd
  obtain ⟨n, hn⟩ : ∃ n, L.length = n := ⟨_, rfl⟩
  have hfn : (L.filter fastP).length ≤ 1000 := Nat.le_trans (List.length_filter_le _ _) hl
  have HFN := Lib.hid hfn
  rw [hn] at hl ⊢
  have HN := Lib.hid hn
  clear hn hfn
  go_enter Try.func34, Try.ntmps34
  go_wp2_with fail
  go_loopw [6, 5] (fun i v wr => ∃ k : Nat, k ≤ n ∧ i = .int .i64 k ∧ wr.ownsRow w.heap.size 63 5 v ((L.take k).filter fastP).length (((L.take k).filter fastP).flatMap itC) ∧ Same w wr) (fun i _ _ => n - (intOf i).toNat)
  case atStart => exact ⟨0, by omega, rfl, empty_owns w _ _ (Nat.le_refl _), (Mod.refl _ _).alloc _⟩
  case round =>
    obtain ⟨k, hk, rfl, hown, M⟩ := hrel
    by_cases hlt : k < n
    · obtain ⟨b1, o1, rfl, hb1, hc1⟩ := (HI.out.same M) (by rw [HN.out]; omega)
      have hkL : k < L.length := by rw [HN.out]; exact hlt
      obtain ⟨x, hx⟩ : ∃ x, L[k]? = some x := ⟨_, List.getElem?_eq_getElem hkL⟩
      obtain ⟨e0, e1, e2, e3, e4⟩ := hc1 k x hx
      have htk : L.take (k + 1) = L.take k ++ [x] := by rw [List.take_add_one, hx]; rfl
      have HT := Lib.hid (take_step (pr := fastP) htk)
      have hfl : ((L.take k).filter fastP).length ≤ k := Nat.le_trans (List.length_filter_le _ _) (List.length_take_le _ _)
      have J1 := Lib.hid hown
      have J2 := Lib.hid M
      have hsz : w.heap.size ≤ wr.heap.size := M.size
      clear hc1 hx htk hown M
      obtain ⟨c, h, t, p, b⟩ := x
      by_cases ht : t = 1
      · subst ht
        cases b
        · cases p
          · have HF := Lib.hid (HT.out.trans (if_pos rfl))
            clear HT
            go_wp2_with (at_builtin; refine wpList_append_own _ rfl (.tmp 38) (.tmp 43) 42 rfl w.heap.size 63 i0 (.agg #[.int .i64 0, .int .i64 0, .int .i64 0, .bool false, .bool false]) 5 32 Try.underlying42 HI0.out HZ0.out HZ1.out HZ2.out rfl (by decide) _ _ _ rfl (J1.out.alloc _) ⟨wr.heap.size, 0, none⟩ 1 1 (itC ⟨c, h, 1, false, false⟩) rfl rfl (new5 _ ⟨c, h, 1, false, false⟩ _) (fun u hu => (by simp at hu; rcases hu with rfl | rfl | rfl | rfl | rfl <;> rfl)) (by unfold maxLen; omega) (by omega) (by simp only [World.size_alloc]; omega) ?_; intro v' w6 hown' hgrow _)
            have J7 := Lib.hid (same_append J2.out J1.out hgrow)
            have J8 := Lib.hid hown'
            clear hown' hgrow
            go_wp2
            go_roundw
            case rel => exact ⟨k + 1, by omega, by go_num, by rw [HF.out, List.length_append, List.flatMap_append]; exact J8.out, J7.out⟩
            case measure => simp [intOf]; omega
          · have HF := Lib.hid (HT.out.trans (if_neg (by simp [fastP])))
            clear HT
            go_wp2
            go_roundw
            case rel => exact ⟨k + 1, by omega, by go_num, by rw [HF.out]; exact J1.out, J2.out⟩
            case measure => simp [intOf]; omega
        · have HF := Lib.hid (HT.out.trans (if_neg (by simp [fastP])))
          clear HT
          go_wp2
          go_roundw
          case rel => exact ⟨k + 1, by omega, by go_num, by rw [HF.out]; exact J1.out, J2.out⟩
          case measure => simp [intOf]; omega
      · have ht' : (t == 1) = false := by rw [beq_eq_false_iff_ne]; exact ht
        have HF := Lib.hid (HT.out.trans (if_neg (by simp [fastP, ht'])))
        clear HT ht
        go_wp2
        go_roundw
        case rel => exact ⟨k + 1, by omega, by go_num, by rw [HF.out]; exact J1.out, J2.out⟩
        case measure => simp [intOf]; omega
    · obtain rfl : k = n := by omega
      have hall : L.take k = L := List.take_of_length_le (by rw [HN.out]; exact Nat.le_refl _)
      rw [hall] at hown
      obtain ⟨a', c', rfl, hits⟩ := its_own hown
      generalize L.filter fastP = S at *
      have J1 := Lib.hid hits
      have J2 := Lib.hid M
      clear hown hits M hall
      go_wp2_with fail
      go_loopw [7, 8] (fun i _ wz => ∃ k : Nat, k ≤ 8 ∧ i = .int .i64 k ∧ downR S pick 0 8 = downR S pick k (8 - k) ∧ Same w wz ∧ Its wz a' S) (fun i _ _ => 8 - (intOf i).toNat)
      case atStart => exact ⟨0, by omega, rfl, rfl, J2.out, J1.out⟩
      case round =>
        obtain ⟨j, hj, rfl, hdr, M, hI⟩ := hrel
        by_cases hlt : j < 8
        · have hst : downR S pick j (8 - j) = if 0 < (levL S (j : Int)).length then pickC (levL S (j : Int)) pick else downR S pick (j + 1) (8 - (j + 1)) := by
            rw [show 8 - j = (8 - (j + 1)) + 1 by omega, downR]
          have HS := Lib.hid (hdr.trans hst)
          have HC := Lib.hid (rlevels_any a' c' S j _ HFN.out hI HV.out)
          have J3 := Lib.hid M
          have J4 := Lib.hid hI
          have hll : (levL S (j : Int)).length ≤ 1000 := Nat.le_trans (List.length_filter_le _ _) HFN.out
          clear hdr hst M hI
          generalize levL S (j : Int) = Z at *
          go_wp2_with fail
          refine HC.out.mono ?_
          rintro e w3 ⟨a3, c3, rfl, hi3, M3⟩
          have J5 := Lib.hid (J3.out.same M3)
          have J6 := Lib.hid (J4.out.same M3)
          have HP := Lib.hid (rpick_any a3 c3 Z pick w3 hll hi3)
          clear hi3 M3 J3 J4 HC
          by_cases hz : 0 < Z.length
          · have he := HS.out.trans (if_pos hz)
            rw [he] at HR
            clear he HS
            go_wp2_with fail
            refine HP.out.mono ?_
            rintro e w4 ⟨rfl, rfl⟩
            go_wp2
            exact HR.out _ _ ⟨rfl, J5.out⟩
          · have he := HS.out.trans (if_neg hz)
            clear HS HP
            have HE := Lib.hid he
            have hz0 : Z.length = 0 := by omega
            rw [hz0]
            clear he hz hz0
            go_wp2
            go_roundw
            case rel => exact ⟨j + 1, by omega, by go_num, HE.out, J5.out, J6.out⟩
            case measure => simp [intOf]; omega
        · obtain rfl : j = 8 := by omega
          rw [hdr] at HR
          have J3 := Lib.hid M
          clear M hI hdr
          go_wp2
          exact HR.out _ _ ⟨rfl, J3.out⟩
end Go.Proofs.Yteommjbbjdbhkaa
