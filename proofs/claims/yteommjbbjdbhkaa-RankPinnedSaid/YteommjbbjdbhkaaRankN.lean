import Derived.Test.YteommjbbjdbhkaaRankM
import Derived.Deep.AppendLies
set_option linter.unusedSimpArgs false
set_option linter.unusedVariables false
namespace Go.Proofs.Yteommjbbjdbhkaa
open Go Go.RowKit
def pinL (l : List It) : List It := (l.filter slowP).filter (·.p)
theorem two_filters {L : List It} {k : Nat} {x : It} (ht : L.take (k + 1) = L.take k ++ [x]) : pinL (L.take (k + 1)) = if slowP x && x.p then pinL (L.take k) ++ [x] else pinL (L.take k) := by
  unfold pinL
  rw [ht, List.filter_append, List.filter_append]
  cases h : slowP x <;> cases h2 : x.p <;> simp [List.filter_cons, h, h2]
theorem pin_le (L : List It) : (pinL L).length ≤ L.length := Nat.le_trans (List.length_filter_le _ _) (List.length_filter_le _ _)
theorem cells5 {w W : World} (M : Same w W) {b p0 p1 p2 p3 p4 : Nat} {x : It} (hb : b < w.heap.size) (h : w.cell? ⟨b, p0, none⟩ = some (.int .i64 x.c) ∧ w.cell? ⟨b, p1, none⟩ = some (.int .i64 x.h) ∧ w.cell? ⟨b, p2, none⟩ = some (.int .i64 x.t) ∧ w.cell? ⟨b, p3, none⟩ = some (.bool x.p) ∧ w.cell? ⟨b, p4, none⟩ = some (.bool x.b)) :
    W.cell? ⟨b, p0, none⟩ = some (.int .i64 x.c) ∧ W.cell? ⟨b, p1, none⟩ = some (.int .i64 x.h) ∧ W.cell? ⟨b, p2, none⟩ = some (.int .i64 x.t) ∧ W.cell? ⟨b, p3, none⟩ = some (.bool x.p) ∧ W.cell? ⟨b, p4, none⟩ = some (.bool x.b) := by
  have k := fun o' => M.cell hb (fun q => q) o'
  exact ⟨(k _).trans h.1, (k _).trans h.2.1, (k _).trans h.2.2.1, (k _).trans h.2.2.2.1, (k _).trans h.2.2.2.2⟩
set_option maxHeartbeats 8000000 in
theorem rup_any (a : Option Addr) (cap : Nat) (L : List It) (pick : Int) (w : World) (hl : L.length ≤ 1000) (hI : Its w a L) (hw : Wf L) :
    Calls Try.prog 32 #[.slice a L.length cap, .int .i64 pick] w fun e w' => e = .returned (.int .i64 (upC L pick)) ∧ Same w w' := by
  refine opq fun R HR => ?_
  have HI := Lib.hid hI
  have HV := Lib.hid (hw.filter slowP)
  clear hI hw
  obtain ⟨i0, hi, hz0, hz1, hz2⟩ := info_parts info63
  have HI0 := Lib.hid hi
  have HZ0 := Lib.hid hz0
  have HZ1 := Lib.hid hz1
  have HZ2 := Lib.hid hz2
  clear hi hz0 hz1 hz2
  unfold upC at HR
  rw [← upR_eq] at HR
  have hpe : (L.filter slowP).filter (·.p) = pinL L := rfl
  rw [hpe] at HR
  clear hpe
  obtain ⟨n, hn⟩ : ∃ n, L.length = n := ⟨_, rfl⟩
  have hfn : (L.filter slowP).length ≤ 1000 := Nat.le_trans (List.length_filter_le _ _) hl
  have hfp : (pinL L).length ≤ 1000 := Nat.le_trans (pin_le L) hl
  have HFN := Lib.hid hfn
  have HFP := Lib.hid hfp
  rw [hn] at hl ⊢
  have HN := Lib.hid hn
  clear hn hfn hfp
  go_enter Try.func32, Try.ntmps32
  go_wp2_with fail
  go_loopw [7, 5, 6] (fun i v u wr => ∃ k : Nat, k ≤ n ∧ i = .int .i64 k ∧ wr.ownsRow w.heap.size 63 5 u ((L.take k).filter slowP).length (((L.take k).filter slowP).flatMap itC) ∧ wr.ownsRow w.heap.size 63 5 v (pinL (L.take k)).length ((pinL (L.take k)).flatMap itC) ∧ v.ownBlock ≠ u.ownBlock ∧ v.ownBlock ≠ none ∧ Same w wr) (fun i _ _ _ => n - (intOf i).toNat)
  case atStart => exact ⟨0, by omega, rfl, by simpa using empty_owns (w.alloc (.cells #[] 63)) w.heap.size 63 (by simp), (empty_owns w _ _ (Nat.le_refl _)).alloc _, by simp [Value.ownBlock], by simp [Value.ownBlock], ((Mod.refl _ _).alloc _).alloc _⟩
  case round =>
    obtain ⟨k, hk, rfl, hown, hown2, hap, hnn, M⟩ := hrel
    by_cases hlt : k < n
    · obtain ⟨b1, o1, rfl, hb1, hc1⟩ := HI.out (by rw [HN.out]; omega)
      have hkL : k < L.length := by rw [HN.out]; exact hlt
      obtain ⟨x, hx⟩ : ∃ x, L[k]? = some x := ⟨_, List.getElem?_eq_getElem hkL⟩
      have HC5 := Lib.hid (fun (W : World) (MM : Same w W) => cells5 (x := x) MM hb1 (hc1 k x hx))
      obtain ⟨e0, e1, e2, e3, e4⟩ := HC5.out _ M
      have htk : L.take (k + 1) = L.take k ++ [x] := by rw [List.take_add_one, hx]; rfl
      have HT := Lib.hid (take_step (pr := slowP) htk)
      have HTT := Lib.hid (two_filters htk)
      have hfl : ((L.take k).filter slowP).length ≤ k := Nat.le_trans (List.length_filter_le _ _) (List.length_take_le _ _)
      have hfl2 : (pinL (L.take k)).length ≤ k := Nat.le_trans (pin_le _) (List.length_take_le _ _)
      have J1 := Lib.hid hown
      have K1 := Lib.hid hown2
      have J2 := Lib.hid M
      have HA := Lib.hid hap
      have HNN := Lib.hid hnn
      have hsz : w.heap.size ≤ wr.heap.size := M.size
      clear hc1 hx htk hown hown2 hap hnn M
      obtain ⟨c, h, t, p, b⟩ := x
      by_cases ht : t = 0
      · subst ht
        cases b
        · cases p
          · have HF := Lib.hid (HT.out.trans (if_pos rfl))
            have HFF := Lib.hid (HTT.out.trans (if_neg (by simp)))
            clear HT HTT
            go_wp2_with (at_builtin; refine wpList_append_lies _ rfl (.tmp 32) (.tmp 37) 42 rfl w.heap.size 63 i0 (.agg #[.int .i64 0, .int .i64 0, .int .i64 0, .bool false, .bool false]) 5 32 Try.underlying42 HI0.out HZ0.out HZ1.out HZ2.out rfl (by decide) _ _ _ rfl (J1.out.alloc _) ⟨wr.heap.size, 0, none⟩ 1 1 (itC ⟨c, h, 0, false, false⟩) rfl rfl (new5 _ ⟨c, h, 0, false, false⟩ _) (fun u hu => (by simp at hu; rcases hu with rfl | rfl | rfl | rfl | rfl <;> rfl)) (by decide) (by unfold maxLen; omega) (by omega) (by simp only [World.size_alloc]; omega) (wr.heap.size + 1) (by simp) ?_; intro g cp w6 hown' hgrow hat hgl; have KL := Lib.hid (fun m q => (K1.out.lt m q).2); have J7 := Lib.hid (same_append J2.out J1.out hgrow); have J8 := Lib.hid hown'; have K8 := Lib.hid ((K1.out.alloc _).kept hgrow (.inr HA.out)); have HA2 : _ ≠ some g := (fun q => (by rcases hat with hat | hat; exact HA.out (q.trans hat.symm); have := KL.out _ q; omega)); have HB := Lib.hid HA2; have hsz6 : w.heap.size ≤ w6.heap.size := J7.out.size; obtain ⟨f0, f1, f2, f3, f4⟩ := HC5.out _ J7.out; clear hown' hgrow hat KL HA HA2 J1 K1 J2 e0 e1 e2 e3 e4 HC5)
            go_roundw
            case rel => exact ⟨k + 1, by omega, by go_num, by rw [HF.out, List.length_append, List.flatMap_append]; exact J8.out, by rw [HFF.out]; exact K8.out, HB.out, HNN.out, J7.out⟩
            case measure => simp [intOf]; omega
          · have HF := Lib.hid (HT.out.trans (if_pos rfl))
            have HFF := Lib.hid (HTT.out.trans (if_pos rfl))
            clear HT HTT
            go_wp2_with (at_builtin; first | (refine wpList_append_lies _ rfl (.tmp 32) (.tmp 37) 42 rfl w.heap.size 63 i0 (.agg #[.int .i64 0, .int .i64 0, .int .i64 0, .bool false, .bool false]) 5 32 Try.underlying42 HI0.out HZ0.out HZ1.out HZ2.out rfl (by decide) _ _ _ rfl (J1.out.alloc _) ⟨wr.heap.size, 0, none⟩ 1 1 (itC ⟨c, h, 0, true, false⟩) rfl rfl (new5 _ ⟨c, h, 0, true, false⟩ _) (fun u hu => (by simp at hu; rcases hu with rfl | rfl | rfl | rfl | rfl <;> rfl)) (by decide) (by unfold maxLen; omega) (by omega) (by simp only [World.size_alloc]; omega) (wr.heap.size + 1) (by simp) ?_; intro g cp w6 hown' hgrow hat hgl; have KL := Lib.hid (fun m q => (K1.out.lt m q).2); have J7 := Lib.hid (same_append J2.out J1.out hgrow); have J8 := Lib.hid hown'; have K8 := Lib.hid ((K1.out.alloc _).kept hgrow (.inr HA.out)); have HA2 : _ ≠ some g := (fun q => (by rcases hat with hat | hat; exact HA.out (q.trans hat.symm); have := KL.out _ q; omega)); have HB := Lib.hid HA2; have hsz6 : w.heap.size ≤ w6.heap.size := J7.out.size; obtain ⟨f0, f1, f2, f3, f4⟩ := HC5.out _ J7.out; clear hown' hgrow hat KL HA HA2 J1 K1 J2 e0 e1 e2 e3 e4 HC5) | (refine wpList_append_lies _ rfl (.tmp 44) (.tmp 49) 42 rfl w.heap.size 63 i0 (.agg #[.int .i64 0, .int .i64 0, .int .i64 0, .bool false, .bool false]) 5 32 Try.underlying42 HI0.out HZ0.out HZ1.out HZ2.out rfl (by decide) _ _ _ rfl (K8.out.alloc _) ⟨w6.heap.size, 0, none⟩ 1 1 (itC ⟨c, h, 0, true, false⟩) rfl rfl (new5 _ ⟨c, h, 0, true, false⟩ _) (fun u hu => (by simp at hu; rcases hu with rfl | rfl | rfl | rfl | rfl <;> rfl)) (by decide) (by unfold maxLen; omega) (by omega) (by simp only [World.size_alloc]; omega) (w6.heap.size + 1) (by simp) ?_; intro g2 cp2 w7 hown' hgrow hat hgl2; have JL := Lib.hid (fun m q => (J8.out.lt m q).2); have K9 := Lib.hid (same_append J7.out K8.out hgrow); have K10 := Lib.hid hown'; have J9 := Lib.hid ((J8.out.alloc _).kept hgrow (.inr (fun q => HB.out q.symm))); have HA2 := Lib.hid (show some g2 ≠ some g from fun q => (by rcases hat with hat | hat; exact HB.out (hat.trans q); have := JL.out _ q.symm; omega)); clear hown' hgrow hat JL))
            go_roundw
            case rel => exact ⟨k + 1, by omega, by go_num, by rw [HF.out, List.length_append, List.flatMap_append]; exact J9.out, by rw [HFF.out, List.length_append, List.flatMap_append]; exact K10.out, HA2.out, (by simp [Value.ownBlock]), K9.out⟩
            case measure => simp [intOf]; omega
        · have HF := Lib.hid (HT.out.trans (if_neg (by simp [slowP])))
          have HFF := Lib.hid (HTT.out.trans (if_neg (by simp [slowP])))
          clear HT HTT
          go_wp2
          go_roundw
          case rel => exact ⟨k + 1, by omega, by go_num, by rw [HF.out]; exact J1.out, by rw [HFF.out]; exact K1.out, HA.out, HNN.out, J2.out⟩
          case measure => simp [intOf]; omega
      · have ht' : (t == 0) = false := by rw [beq_eq_false_iff_ne]; exact ht
        have HF := Lib.hid (HT.out.trans (if_neg (by simp [slowP, ht'])))
        have HFF := Lib.hid (HTT.out.trans (if_neg (by simp [slowP, ht'])))
        clear ht
        clear HT HTT
        go_wp2
        go_roundw
        case rel => exact ⟨k + 1, by omega, by go_num, by rw [HF.out]; exact J1.out, by rw [HFF.out]; exact K1.out, HA.out, HNN.out, J2.out⟩
        case measure => simp [intOf]; omega
    · obtain rfl : k = n := by omega
      have hall : L.take k = L := List.take_of_length_le (by rw [HN.out]; exact Nat.le_refl _)
      rw [hall] at hown hown2
      obtain ⟨a', c', rfl, hits⟩ := its_own hown
      obtain ⟨a2, c2, rfl, hits2⟩ := its_own hown2
      have HP2 := Lib.hid (rpick_any a2 c2 (pinL L) pick wr HFP.out hits2)
      generalize L.filter slowP = S at *
      generalize pinL L = Q at *
      have J1 := Lib.hid hits
      have J2 := Lib.hid M
      clear hown hown2 hits hits2 M hall hap hnn
      by_cases hq : Q.length = 0
      · rw [if_pos hq] at HR
        rw [hq]
        clear hq HP2
        go_wp2_with fail
        go_loopw [8, 9] (fun i _ wz => ∃ j : Nat, j ≤ 6 ∧ i = .int .i64 ((j : Int) + 1) ∧ upR S pick 6 = upR S pick j ∧ Same w wz ∧ Its wz a' S) (fun i _ _ => (intOf i).toNat)
        case atStart => exact ⟨6, by omega, rfl, rfl, J2.out, J1.out⟩
        case round =>
          obtain ⟨j, hj, rfl, hdr, M, hI⟩ := hrel
          by_cases hlt : 0 < j
          · obtain ⟨j, rfl⟩ : ∃ m, j = m + 1 := ⟨j - 1, by omega⟩
            have HS := Lib.hid hdr
            have HC := Lib.hid (rlevels_any a' c' S ((j : Int) + 2) _ HFN.out hI HV.out)
            have J3 := Lib.hid M
            have J4 := Lib.hid hI
            have hll : (levL S ((j : Int) + 2)).length ≤ 1000 := Nat.le_trans (List.length_filter_le _ _) HFN.out
            have hcast : ((j + 1 : Nat) : Int) + 1 = (j : Int) + 2 := by omega
            rw [hcast]
            clear hdr M hI hcast
            have hst : upR S pick (j + 1) = if 0 < (levL S ((j : Int) + 2)).length then pickC (levL S ((j : Int) + 2)) pick else upR S pick j := rfl
            have HS2 := Lib.hid (HS.out.trans hst)
            clear HS hst
            generalize levL S ((j : Int) + 2) = Z at *
            go_wp2_with fail
            refine HC.out.mono ?_
            rintro e w3 ⟨a3, c3, rfl, hi3, M3⟩
            have J5 := Lib.hid (J3.out.same M3)
            have J6 := Lib.hid (J4.out.same M3)
            have HP := Lib.hid (rpick_any a3 c3 Z pick w3 hll hi3)
            clear hi3 M3 J3 J4 HC
            by_cases hz : 0 < Z.length
            · have he := HS2.out.trans (if_pos hz)
              rw [he] at HR
              clear he HS2
              go_wp2_with fail
              refine HP.out.mono ?_
              rintro e w4 ⟨rfl, rfl⟩
              go_wp2
              exact HR.out _ _ ⟨rfl, J5.out⟩
            · have he := HS2.out.trans (if_neg hz)
              clear HS2 HP
              have HE := Lib.hid he
              have hz0 : Z.length = 0 := by omega
              rw [hz0]
              clear he hz hz0
              go_wp2
              go_roundw
              case rel => exact ⟨j, by omega, by go_num, HE.out, J5.out, J6.out⟩
              case measure => simp [intOf]; omega
          · obtain rfl : j = 0 := by omega
            rw [hdr] at HR
            have J3 := Lib.hid M
            clear M hI hdr
            go_wp2
            exact HR.out _ _ ⟨rfl, J3.out⟩
      · rw [if_neg hq] at HR
        go_wp2_with fail
        refine HP2.out.mono ?_
        rintro e w4 ⟨rfl, rfl⟩
        go_wp2
        exact HR.out _ _ ⟨rfl, J2.out⟩
end Go.Proofs.Yteommjbbjdbhkaa
