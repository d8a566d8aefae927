import Derived.Test.YteommjbbjdbhkaaRankJ
set_option linter.unusedSimpArgs false
set_option linter.unusedVariables false
namespace Go.Proofs.Yteommjbbjdbhkaa
open Go Go.RowKit
theorem info63 : (Try.prog.info? 63).map (fun i => (i.zero, i.size, i.bytes)) = some (some (.agg #[.int .i64 0, .int .i64 0, .int .i64 0, .bool false, .bool false]), 5, 32) := by kernel_rfl
theorem empty_owns (w : World) (base : Nat) (e : TypeId) (h : base ≤ w.heap.size) : (w.alloc (.cells #[] e)).ownsRow base e 5 (.slice (some ⟨w.heap.size, 0, none⟩) 0 0) 0 [] :=
  ⟨rfl, .inr ⟨w.heap.size, 0, #[], rfl, h, (by show (w.heap.push _)[w.heap.size]? = _; exact Array.getElem?_push_size), Nat.le_refl _, Nat.zero_le _, rfl, rfl⟩⟩
theorem its_own {w : World} {base : Nat} {ty : TypeId} {v : Value} {L : List It} (h : w.ownsRow base ty 5 v L.length (L.flatMap itC)) : ∃ a c, v = .slice a L.length c ∧ Its w a L := by
  by_cases hp : 0 < L.length
  · obtain ⟨g, cap, hv, hb, hc, hr⟩ := RowV.of_owns h hp
    refine ⟨some ⟨g, 0, none⟩, cap, hv, fun _ => ⟨g, 0, rfl, hr.lt, fun i x hx => ?_⟩⟩
    have hi : i < L.length := (List.getElem?_eq_some_iff.1 hx).1
    have key : ∀ j, j < 5 → w.cell? ⟨g, 0 + i * 5 + j, none⟩ = some ((L.flatMap itC).getD (i * 5 + j) undef) := fun j hj => by
      rw [Nat.zero_add]; exact hr.cell (i * 5 + j) (by omega)
    have get : ∀ j (v : Value), j < 5 → (itC x)[j]? = some v → w.cell? ⟨g, 0 + i * 5 + j, none⟩ = some v := fun j v hj hv => by
      rw [key j hj, List.getD_eq_getElem?_getD, flat_get L i j x hx hj, hv]; rfl
    exact ⟨get 0 _ (by omega) rfl, get 1 _ (by omega) rfl, get 2 _ (by omega) rfl, get 3 _ (by omega) rfl, get 4 _ (by omega) rfl⟩
  · have h0 : L.length = 0 := by omega
    rcases h.2 with ⟨hv, _⟩ | ⟨g, cap, cur, hv, _⟩
    · exact ⟨none, 0, by rw [hv, h0], fun q => absurd q hp⟩
    · exact ⟨some ⟨g, 0, none⟩, cap, hv, fun q => absurd q hp⟩
set_option maxHeartbeats 4000000 in
theorem rlevels_any (a : Option Addr) (cap : Nat) (L : List It) (lv : Int) (w : World) (hl : L.length ≤ 1000) (hI : Its w a L) (hw : Wf L) :
    Calls Try.prog 47 #[.slice a L.length cap, .int .i64 lv] w (ItsPost w (levL L lv)) := by
  refine opq fun R HR => ?_
  have HI := Lib.hid hI
  have HV := Lib.hid hw
  clear hI hw
  obtain ⟨i0, hi, hz0, hz1, hz2⟩ := info_parts info63
  have HI0 := Lib.hid hi
  have HZ0 := Lib.hid hz0
  have HZ1 := Lib.hid hz1
  have HZ2 := Lib.hid hz2
  clear hi hz0 hz1 hz2
  obtain ⟨n, hn⟩ : ∃ n, L.length = n := ⟨_, rfl⟩
  rw [hn] at hl ⊢
  have HN := Lib.hid hn
  clear hn
  unfold levL at HR
  go_enter Try.func47, Try.ntmps47
  go_wp2_with fail
  go_loopw [6, 5] (fun i v wr => ∃ k : Nat, k ≤ n ∧ i = .int .i64 k ∧ wr.ownsRow w.heap.size 63 5 v ((L.take k).filter fun x => lev x.h == lv).length (((L.take k).filter fun x => lev x.h == lv).flatMap itC) ∧ Same w wr) (fun i _ _ => n - (intOf i).toNat)
  case atStart => exact ⟨0, by omega, rfl, empty_owns w _ _ (Nat.le_refl _), (Mod.refl _ _).alloc _⟩
  case round =>
    obtain ⟨k, hk, rfl, hown, M⟩ := hrel
    by_cases hlt : k < n
    · obtain ⟨b1, o1, rfl, hb1, hc1⟩ := (HI.out.same M) (by rw [HN.out]; omega)
      have hkL : k < L.length := by rw [HN.out]; exact hlt
      obtain ⟨x, hx⟩ : ∃ x, L[k]? = some x := ⟨_, List.getElem?_eq_getElem hkL⟩
      obtain ⟨e0, e1, e2, e3, e4⟩ := hc1 k x hx
      have hxm : x ∈ L := List.mem_of_getElem? hx
      have htk : L.take (k + 1) = L.take k ++ [x] := by rw [List.take_add_one, hx]; rfl
      have HT := Lib.hid htk
      have hfl : ((L.take k).filter fun x => lev x.h == lv).length ≤ k := Nat.le_trans (List.length_filter_le _ _) (List.length_take_le _ _)
      have J1 := Lib.hid hown
      have J2 := Lib.hid M
      have hsz : w.heap.size ≤ wr.heap.size := M.size
      have HL := Lib.hid (fun wz => rlevel_any x.h wz (HV.out x hxm))
      clear hc1 hx htk hown M hxm
      go_wp2_with fail
      refine (HL.out _).mono ?_
      rintro e w5 ⟨rfl, rfl⟩
      by_cases hpr : lev x.h = lv
      · have hfk : (L.take (k + 1)).filter (fun x => lev x.h == lv) = (L.take k).filter (fun x => lev x.h == lv) ++ [x] := by rw [HT.out, List.filter_append]; simp [List.filter_cons, hpr]
        have HF := Lib.hid hfk
        clear hfk
        generalize lev x.h = lx at *
        go_wp2_with (at_builtin; refine wpList_append_own _ rfl (.tmp 22) (.tmp 27) 42 rfl w.heap.size 63 i0 (.agg #[.int .i64 0, .int .i64 0, .int .i64 0, .bool false, .bool false]) 5 32 Try.underlying42 HI0.out HZ0.out HZ1.out HZ2.out rfl (by decide) _ _ _ rfl (J1.out.alloc _) ⟨wr.heap.size, 0, none⟩ 1 1 (itC x) rfl rfl (new5 _ x _) (fun u hu => (by simp at hu; rcases hu with rfl | rfl | rfl | rfl | rfl <;> rfl)) (by unfold maxLen; omega) (by omega) (by simp only [World.size_alloc]; omega) ?_; intro v' w6 hown' hgrow _)
        have J7 := Lib.hid (same_append J2.out J1.out hgrow)
        have J8 := Lib.hid hown'
        clear hown' hgrow
        go_wp2
        go_roundw
        case rel => exact ⟨k + 1, by omega, by go_num, by rw [HF.out, List.length_append, List.flatMap_append]; exact J8.out, J7.out⟩
        case measure => simp [intOf]; omega
      · have hfk : (L.take (k + 1)).filter (fun x => lev x.h == lv) = (L.take k).filter (fun x => lev x.h == lv) := by rw [HT.out, List.filter_append]; simp [List.filter_cons, hpr]
        have HF := Lib.hid hfk
        clear hfk
        generalize lev x.h = lx at *
        go_wp2
        go_roundw
        case rel => exact ⟨k + 1, by omega, by go_num, by rw [HF.out]; exact J1.out, J2.out⟩
        case measure => simp [intOf]; omega
    · obtain rfl : k = n := by omega
      have hall : L.take k = L := List.take_of_length_le (by rw [HN.out]; exact Nat.le_refl _)
      rw [hall] at hown
      obtain ⟨a', c', rfl, hits⟩ := its_own hown
      have J1 := Lib.hid hits
      have J2 := Lib.hid M
      clear hown hits M hall
      go_wp2
      exact HR.out _ _ ⟨_, _, rfl, J1.out, J2.out⟩
end Go.Proofs.Yteommjbbjdbhkaa
