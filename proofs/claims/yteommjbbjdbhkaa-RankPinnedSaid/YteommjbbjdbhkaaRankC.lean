import Derived.Test.YteommjbbjdbhkaaRankB
import Derived.Test.YteommjbbjdbhkaaRows2
import Derived.OwnWalk
set_option linter.unusedSimpArgs false
set_option linter.unusedVariables false
namespace Go.Proofs.Yteommjbbjdbhkaa
open Go Go.RowKit
theorem info53 : (Try.prog.info? 53).map (fun i => (i.zero, i.size, i.bytes)) = some (some (.agg #[.int .i64 0, .int .i64 0, .int .i64 0, .bool false, .bool false]), 5, 32) := by kernel_rfl
theorem new5 (w : World) (x : It) (t : TypeId) : ∀ j u, (itC x)[j]? = some u → (w.alloc (.cells #[.int .i64 x.c, .int .i64 x.h, .int .i64 x.t, .bool x.p, .bool x.b] t)).cell? (Addr.add ⟨w.heap.size, 0, none⟩ j) = some u := by
  intro j u hj
  match j, hj with
  | 0, hj => simp at hj; subst hj; simp [Addr.add]
  | 1, hj => simp at hj; subst hj; simp [Addr.add, go_sem]
  | 2, hj => simp at hj; subst hj; simp [Addr.add, go_sem]
  | 3, hj => simp at hj; subst hj; simp [Addr.add, go_sem]
  | 4, hj => simp at hj; subst hj; simp [Addr.add, go_sem]
theorem flat_len (L : List It) : (L.flatMap itC).length = L.length * 5 := by
  induction L with
  | nil => rfl
  | cons x L ih => rw [List.flatMap_cons, List.length_append, ih, List.length_cons]; simp; omega
theorem flat_get : ∀ (L : List It) (i j : Nat) (x : It), L[i]? = some x → j < 5 → (L.flatMap itC)[i * 5 + j]? = (itC x)[j]?
  | [], i, j, x, h, _ => by simp at h
  | y :: L, 0, j, x, h, hj => by
    simp at h; subst h
    rw [List.flatMap_cons, List.getElem?_append_left (by simp; omega)]; simp
  | y :: L, i + 1, j, x, h, hj => by
    rw [List.flatMap_cons, List.getElem?_append_right (by simp; omega)]
    have := flat_get L i j x (by simpa using h) hj
    rw [← this]; congr 1; simp; omega
/-- Items that a call has made. -/
def ItsPost (w : World) (L : List It) (e : Ending) (w' : World) : Prop := ∃ a c, e = .returned (.slice a L.length c) ∧ Its w' a L ∧ Same w w'
theorem its_owns {w : World} {base : Nat} {v : Value} {L : List It} (h : w.ownsRow base 53 5 v L.length (L.flatMap itC)) : ∃ a c, v = .slice a L.length c ∧ Its w a L := by
  by_cases hp : 0 < L.length
  · obtain ⟨g, cap, hv, hb, hc, hr⟩ := RowV.of_owns h hp
    refine ⟨some ⟨g, 0, none⟩, cap, hv, fun _ => ⟨g, 0, rfl, hr.lt, fun i x hx => ?_⟩⟩
    have hi : i < L.length := (List.getElem?_eq_some_iff.1 hx).1
    have key : ∀ j, j < 5 → w.cell? ⟨g, 0 + i * 5 + j, none⟩ = some ((L.flatMap itC).getD (i * 5 + j) undef) := fun j hj => by
      rw [Nat.zero_add]; exact hr.cell (i * 5 + j) (by omega)
    have get : ∀ j (v : Value), j < 5 → (itC x)[j]? = some v → w.cell? ⟨g, 0 + i * 5 + j, none⟩ = some v := fun j v hj hv => by
      rw [key j hj, List.getD_eq_getElem?_getD, flat_get L i j x hx hj, hv]; rfl
    exact ⟨get 0 _ (by omega) rfl, get 1 _ (by omega) rfl, get 2 _ (by omega) rfl, get 3 _ (by omega) rfl, get 4 _ (by omega) rfl⟩
  · have h0 : L.length = 0 := by omega
    rcases h.2 with ⟨hv, _⟩ | ⟨g, cap, cur, hv, _⟩
    · exact ⟨none, 0, by rw [hv, h0], fun q => absurd q hp⟩
    · exact ⟨some ⟨g, 0, none⟩, cap, hv, fun q => absurd q hp⟩
theorem owns_same {w w' : World} {base size n : Nat} {e : TypeId} {v : Value} {xs : List Value} (h : w.ownsRow base e size v n xs) (M : Same w w') : w'.ownsRow base e size v n xs := by
  obtain ⟨hl, h0 | ⟨g, cap, cur, hv, hb, hh, r⟩⟩ := h
  · exact ⟨hl, .inl h0⟩
  · have hlt : g < w.heap.size := by
      rcases Nat.lt_or_ge g w.heap.size with q | q
      · exact q
      · rw [Array.getElem?_eq_none q] at hh; cases hh
    exact ⟨hl, .inr ⟨g, cap, cur, hv, hb, (M.block g hlt (fun q => q)).trans hh, r⟩⟩
set_option maxHeartbeats 2000000 in
theorem some_none (fid : Nat) (pr : It → Bool) (a : Option Addr) (cap : Nat) (L : List It) (w : World) (hl : L.length ≤ 1000) (hI : Its w a L) (hf : ∀ (args : Array Value) (w : World), (callFunc fid args).run Try.prog w = .ok (.enter fid args) w)
    (HC : ∀ x ∈ L, ∀ wz, Same w wz → Calls Try.prog fid #[itV x.c x.h x.t x.p x.b] wz fun e w' => e = .returned (.bool (pr x)) ∧ Same wz w') :
    Calls Try.prog 41 #[.slice a L.length cap, .func (.func fid) #[] #[]] w (ItsPost w (L.filter pr)) := by
  refine opq fun R HR => ?_
  have HI := Lib.hid hI
  have HCC := Lib.hid HC
  clear hI HC
  obtain ⟨i0, hi, hz0, hz1, hz2⟩ := info_parts info53
  have HI0 := Lib.hid hi
  have HZ0 := Lib.hid hz0
  have HZ1 := Lib.hid hz1
  have HZ2 := Lib.hid hz2
  clear hi hz0 hz1 hz2
  obtain ⟨n, hn⟩ : ∃ n, L.length = n := ⟨_, rfl⟩
  rw [hn] at hl ⊢
  have HN := Lib.hid hn
  clear hn
  go_enter Try.func41, Try.ntmps41
  go_wp2_with fail
  go_loopw [9, 4, 6] (fun i v _ wr => ∃ k : Nat, k ≤ n ∧ i = .int .i64 k ∧ wr.ownsRow w.heap.size 53 5 v ((L.take k).filter pr).length (((L.take k).filter pr).flatMap itC) ∧ Same w wr) (fun i _ _ _ => n - (intOf i).toNat)
  case atStart => exact ⟨0, by omega, rfl, World.ownsRow_nil _ _ _ _, Mod.refl _ _⟩
  case round =>
    obtain ⟨k, hk, rfl, hown, M⟩ := hrel
    by_cases hlt : k < n
    · obtain ⟨b1, o1, rfl, hb1, hc1⟩ := (HI.out.same M) (by rw [HN.out]; omega)
      have hkL : k < L.length := by rw [HN.out]; exact hlt
      obtain ⟨x, hx⟩ : ∃ x, L[k]? = some x := ⟨_, List.getElem?_eq_getElem hkL⟩
      obtain ⟨e0, e1, e2, e3, e4⟩ := hc1 k x hx
      have hxm : x ∈ L := List.mem_of_getElem? hx
      have htk : L.take (k + 1) = L.take k ++ [x] := by rw [List.take_add_one, hx]; rfl
      have HT := Lib.hid htk
      have hfl : ((L.take k).filter pr).length ≤ k := Nat.le_trans (List.length_filter_le _ _) (List.length_take_le _ _)
      have J1 := Lib.hid hown
      have J2 := Lib.hid M
      have hsz : w.heap.size ≤ wr.heap.size := M.size
      clear hc1 hx htk hown M
      go_wp2_with fail
      refine (HCC.out x hxm _ (J2.out.alloc _)).mono ?_
      have hB := Blk.new wr #[.int .i64 x.c, .int .i64 x.h, .int .i64 x.t, .bool x.p, .bool x.b] 53
      have hXw : wr.heap.size < (wr.alloc (.cells #[.int .i64 x.c, .int .i64 x.h, .int .i64 x.t, .bool x.p, .bool x.b] 53)).heap.size := by simp
      have J3 := Lib.hid (J2.out.alloc (.cells #[.int .i64 x.c, .int .i64 x.h, .int .i64 x.t, .bool x.p, .bool x.b] 53))
      have J4 := Lib.hid (J1.out.alloc (.cells #[.int .i64 x.c, .int .i64 x.h, .int .i64 x.t, .bool x.p, .bool x.b] 53))
      generalize wr.alloc _ = W at *
      rintro e w5 ⟨rfl, M5⟩
      have J5 := Lib.hid (J3.out.same M5)
      have J6 := Lib.hid (owns_same J4.out M5)
      have hx5 := (hB.mod M5 (fun q => q)).cell
      have hsz5 : w.heap.size ≤ w5.heap.size := J5.out.size
      clear M5 hB J3 J4 e0 e1 e2 e3 e4
      rcases hpr : pr x with _ | _
      · have hfk : (L.take (k + 1)).filter pr = (L.take k).filter pr := by rw [HT.out, List.filter_append]; simp [List.filter_cons, hpr]
        have HF := Lib.hid hfk
        clear hfk hpr
        go_wp2
        go_roundw
        case rel => exact ⟨k + 1, by omega, by go_num, by rw [HF.out]; exact J6.out, J5.out⟩
        case measure => simp [intOf]; omega
      · have hfk : (L.take (k + 1)).filter pr = (L.take k).filter pr ++ [x] := by rw [HT.out, List.filter_append]; simp [List.filter_cons, hpr]
        have HF := Lib.hid hfk
        clear hfk hpr
        go_wp2_with (at_builtin; refine wpList_append_own _ rfl (.tmp 16) (.tmp 18) 41 rfl w.heap.size 53 i0 (.agg #[.int .i64 0, .int .i64 0, .int .i64 0, .bool false, .bool false]) 5 32 Try.underlying41 HI0.out HZ0.out HZ1.out HZ2.out rfl (by decide) _ _ _ rfl (J6.out.alloc _) ⟨w5.heap.size, 0, none⟩ 1 1 (itC x) rfl rfl (new5 _ x _) (fun u hu => (by simp at hu; rcases hu with rfl | rfl | rfl | rfl | rfl <;> rfl)) (by unfold maxLen; omega) (by omega) (by simp only [World.size_alloc]; omega) ?_; intro v' w6 hown' hgrow _)
        have J7 := Lib.hid (same_append J5.out J6.out hgrow)
        have J8 := Lib.hid hown'
        clear hown' hgrow
        go_wp2
        go_roundw
        case rel => exact ⟨k + 1, by omega, by go_num, by rw [HF.out, List.length_append, List.flatMap_append]; exact J8.out, J7.out⟩
        case measure => simp [intOf]; omega
    · obtain rfl : k = n := by omega
      have hall : L.take k = L := List.take_of_length_le (by rw [HN.out]; exact Nat.le_refl _)
      rw [hall] at hown
      obtain ⟨a', c', rfl, hits⟩ := its_owns hown
      have J1 := Lib.hid hits
      have J2 := Lib.hid M
      clear hown hits M hall
      go_wp2
      exact HR.out _ _ ⟨_, _, rfl, J1.out, J2.out⟩
set_option maxHeartbeats 2000000 in
theorem some_cap (fid : Nat) (cv : Value) (pr : It → Bool) (a : Option Addr) (cap : Nat) (L : List It) (w : World) (hl : L.length ≤ 1000) (hI : Its w a L) (hf : ∀ (args : Array Value) (w : World), (callFunc fid args).run Try.prog w = .ok (.enter fid args) w)
    (HC : ∀ x ∈ L, ∀ wz, Same w wz → Calls Try.prog fid #[itV x.c x.h x.t x.p x.b, cv] wz fun e w' => e = .returned (.bool (pr x)) ∧ Same wz w') :
    Calls Try.prog 41 #[.slice a L.length cap, .func (.func fid) #[] #[cv]] w (ItsPost w (L.filter pr)) := by
  refine opq fun R HR => ?_
  have HI := Lib.hid hI
  have HCC := Lib.hid HC
  clear hI HC
  obtain ⟨i0, hi, hz0, hz1, hz2⟩ := info_parts info53
  have HI0 := Lib.hid hi
  have HZ0 := Lib.hid hz0
  have HZ1 := Lib.hid hz1
  have HZ2 := Lib.hid hz2
  clear hi hz0 hz1 hz2
  obtain ⟨n, hn⟩ : ∃ n, L.length = n := ⟨_, rfl⟩
  rw [hn] at hl ⊢
  have HN := Lib.hid hn
  clear hn
  go_enter Try.func41, Try.ntmps41
  go_wp2_with fail
  go_loopw [9, 4, 6] (fun i v _ wr => ∃ k : Nat, k ≤ n ∧ i = .int .i64 k ∧ wr.ownsRow w.heap.size 53 5 v ((L.take k).filter pr).length (((L.take k).filter pr).flatMap itC) ∧ Same w wr) (fun i _ _ _ => n - (intOf i).toNat)
  case atStart => exact ⟨0, by omega, rfl, World.ownsRow_nil _ _ _ _, Mod.refl _ _⟩
  case round =>
    obtain ⟨k, hk, rfl, hown, M⟩ := hrel
    by_cases hlt : k < n
    · obtain ⟨b1, o1, rfl, hb1, hc1⟩ := (HI.out.same M) (by rw [HN.out]; omega)
      have hkL : k < L.length := by rw [HN.out]; exact hlt
      obtain ⟨x, hx⟩ : ∃ x, L[k]? = some x := ⟨_, List.getElem?_eq_getElem hkL⟩
      obtain ⟨e0, e1, e2, e3, e4⟩ := hc1 k x hx
      have hxm : x ∈ L := List.mem_of_getElem? hx
      have htk : L.take (k + 1) = L.take k ++ [x] := by rw [List.take_add_one, hx]; rfl
      have HT := Lib.hid htk
      have hfl : ((L.take k).filter pr).length ≤ k := Nat.le_trans (List.length_filter_le _ _) (List.length_take_le _ _)
      have J1 := Lib.hid hown
      have J2 := Lib.hid M
      have hsz : w.heap.size ≤ wr.heap.size := M.size
      clear hc1 hx htk hown M
      go_wp2_with fail
      refine (HCC.out x hxm _ (J2.out.alloc _)).mono ?_
      have hB := Blk.new wr #[.int .i64 x.c, .int .i64 x.h, .int .i64 x.t, .bool x.p, .bool x.b] 53
      have hXw : wr.heap.size < (wr.alloc (.cells #[.int .i64 x.c, .int .i64 x.h, .int .i64 x.t, .bool x.p, .bool x.b] 53)).heap.size := by simp
      have J3 := Lib.hid (J2.out.alloc (.cells #[.int .i64 x.c, .int .i64 x.h, .int .i64 x.t, .bool x.p, .bool x.b] 53))
      have J4 := Lib.hid (J1.out.alloc (.cells #[.int .i64 x.c, .int .i64 x.h, .int .i64 x.t, .bool x.p, .bool x.b] 53))
      generalize wr.alloc _ = W at *
      rintro e w5 ⟨rfl, M5⟩
      have J5 := Lib.hid (J3.out.same M5)
      have J6 := Lib.hid (owns_same J4.out M5)
      have hx5 := (hB.mod M5 (fun q => q)).cell
      have hsz5 : w.heap.size ≤ w5.heap.size := J5.out.size
      clear M5 hB J3 J4 e0 e1 e2 e3 e4
      rcases hpr : pr x with _ | _
      · have hfk : (L.take (k + 1)).filter pr = (L.take k).filter pr := by rw [HT.out, List.filter_append]; simp [List.filter_cons, hpr]
        have HF := Lib.hid hfk
        clear hfk hpr
        go_wp2
        go_roundw
        case rel => exact ⟨k + 1, by omega, by go_num, by rw [HF.out]; exact J6.out, J5.out⟩
        case measure => simp [intOf]; omega
      · have hfk : (L.take (k + 1)).filter pr = (L.take k).filter pr ++ [x] := by rw [HT.out, List.filter_append]; simp [List.filter_cons, hpr]
        have HF := Lib.hid hfk
        clear hfk hpr
        go_wp2_with (at_builtin; refine wpList_append_own _ rfl (.tmp 16) (.tmp 18) 41 rfl w.heap.size 53 i0 (.agg #[.int .i64 0, .int .i64 0, .int .i64 0, .bool false, .bool false]) 5 32 Try.underlying41 HI0.out HZ0.out HZ1.out HZ2.out rfl (by decide) _ _ _ rfl (J6.out.alloc _) ⟨w5.heap.size, 0, none⟩ 1 1 (itC x) rfl rfl (new5 _ x _) (fun u hu => (by simp at hu; rcases hu with rfl | rfl | rfl | rfl | rfl <;> rfl)) (by unfold maxLen; omega) (by omega) (by simp only [World.size_alloc]; omega) ?_; intro v' w6 hown' hgrow _)
        have J7 := Lib.hid (same_append J5.out J6.out hgrow)
        have J8 := Lib.hid hown'
        clear hown' hgrow
        go_wp2
        go_roundw
        case rel => exact ⟨k + 1, by omega, by go_num, by rw [HF.out, List.length_append, List.flatMap_append]; exact J8.out, J7.out⟩
        case measure => simp [intOf]; omega
    · obtain rfl : k = n := by omega
      have hall : L.take k = L := List.take_of_length_le (by rw [HN.out]; exact Nat.le_refl _)
      rw [hall] at hown
      obtain ⟨a', c', rfl, hits⟩ := its_owns hown
      have J1 := Lib.hid hits
      have J2 := Lib.hid M
      clear hown hits M hall
      go_wp2
      exact HR.out _ _ ⟨_, _, rfl, J1.out, J2.out⟩
end Go.Proofs.Yteommjbbjdbhkaa
