import Derived.Test.YthkcdoneghcglaaDoorBndC
import Derived.Laws.OwnMore
import Derived.Deep.AppendLies
set_option linter.unusedSimpArgs false
set_option linter.unusedVariables false
/- band.runs. -/
namespace Go.Proofs.YthkcdoneghcglaaDoor
open Go Go.RowKit
abbrev fC (p : Int × Int) : List Value := [.int .i64 p.1, .int .i64 p.2]
/-- Pairs in memory. -/
def Fds (w : World) (a : Option Addr) (F : List (Int × Int)) : Prop := 0 < F.length → ∃ b o, a = some ⟨b, o, none⟩ ∧ b < w.heap.size ∧ ∀ (i : Nat) (p : Int × Int), F[i]? = some p → w.cell? ⟨b, o + i * 2, none⟩ = some (.int .i64 p.1) ∧ w.cell? ⟨b, o + i * 2 + 1, none⟩ = some (.int .i64 p.2)
theorem Fds.same {w w' : World} {a : Option Addr} {F : List (Int × Int)} (h : Fds w a F) (M : Same w w') : Fds w' a F := by
  intro hp
  obtain ⟨b, o, ha, hb, hc⟩ := h hp
  refine ⟨b, o, ha, Nat.lt_of_lt_of_le hb M.size, fun i p hi => ?_⟩
  have := hc i p hi
  exact ⟨(M.cell hb (fun q => q) _).trans this.1, (M.cell hb (fun q => q) _).trans this.2⟩
theorem two_new (w : World) (p : Int × Int) (t : TypeId) : ∀ j u, (fC p)[j]? = some u → (w.alloc (.cells #[.int .i64 p.1, .int .i64 p.2] t)).cell? (Addr.add ⟨w.heap.size, 0, none⟩ j) = some u := by
  intro j u hj
  match j, hj with
  | 0, hj => simp at hj; subst hj; simp [Addr.add]
  | 1, hj => simp at hj; subst hj; simp [Addr.add, go_sem]
theorem flat2_len : ∀ L : List (Int × Int), (L.flatMap fC).length = L.length * 2
  | [] => rfl
  | x :: L => by rw [List.flatMap_cons, List.length_append, flat2_len L, List.length_cons]; simp; omega
theorem flat2_get : ∀ (L : List (Int × Int)) (i j : Nat) (x : Int × Int), L[i]? = some x → j < 2 → (L.flatMap fC)[i * 2 + j]? = (fC x)[j]?
  | [], i, j, x, h, _ => by simp at h
  | y :: L, 0, j, x, h, hj => by
    simp at h; subst h
    rw [List.flatMap_cons, List.getElem?_append_left (by simp; omega)]; simp
  | y :: L, i + 1, j, x, h, hj => by
    rw [List.flatMap_cons, List.getElem?_append_right (by simp; omega)]
    have := flat2_get L i j x (by simpa using h) hj
    rw [← this]; congr 1; simp; omega
theorem fds_own {w : World} {base : Nat} {ty : TypeId} {v : Value} {L : List (Int × Int)} (h : w.ownsRow base ty 2 v L.length (L.flatMap fC)) : ∃ a c, v = .slice a L.length c ∧ L.length ≤ c ∧ Fds w a L := by
  by_cases hp : 0 < L.length
  · obtain ⟨g, cap, hv, hb, hc, hr⟩ := RowV.of_owns h hp
    refine ⟨some ⟨g, 0, none⟩, cap, hv, hc, fun _ => ⟨g, 0, rfl, hr.lt, fun i x hx => ?_⟩⟩
    have hi : i < L.length := (List.getElem?_eq_some_iff.1 hx).1
    have key : ∀ j, j < 2 → w.cell? ⟨g, 0 + i * 2 + j, none⟩ = some ((L.flatMap fC).getD (i * 2 + j) undef) := fun j hj => by
      rw [Nat.zero_add]; exact hr.cell (i * 2 + j) (by omega)
    have get : ∀ j (v : Value), j < 2 → (fC x)[j]? = some v → w.cell? ⟨g, 0 + i * 2 + j, none⟩ = some v := fun j v hj hv => by
      rw [key j hj, List.getD_eq_getElem?_getD, flat2_get L i j x hx hj, hv]; rfl
    exact ⟨get 0 _ (by omega) rfl, get 1 _ (by omega) rfl⟩
  · have h0 : L.length = 0 := by omega
    rcases h.2 with ⟨hv, _⟩ | ⟨g, cap, cur, hv, _⟩
    · exact ⟨none, 0, by rw [hv, h0], by omega, fun q => absurd q hp⟩
    · exact ⟨some ⟨g, 0, none⟩, cap, hv, by omega, fun q => absurd q hp⟩
theorem flat2_set (R : List (Int × Int)) (a b c : Int) : ((R ++ [(a, b)]).flatMap fC).set (R.length * 2 + 1) (.int .i64 c) = (R ++ [(a, c)]).flatMap fC := by
  rw [List.flatMap_append, List.flatMap_append, List.set_append_right _ _ (by rw [flat2_len]; omega), flat2_len, show R.length * 2 + 1 - R.length * 2 = 1 by omega]
  rfl
theorem info62 : (Tryd.prog.info? 62).map (fun i => (i.zero, i.size, i.bytes)) = some (some (.agg #[.int .i64 0, .int .i64 0]), 2, 16) := by kernel_rfl
theorem runsF_len : ∀ (r : List Int) (a b : Int), (runsF a b r).length ≤ r.length + 1
  | [], a, b => by simp [runsF]
  | n :: r, a, b => by
    rw [runsF]
    split
    · have := runsF_len r a n; simp; omega
    · have := runsF_len r n n; simp; omega
theorem runs_len (l : List Int) : (runs l).length ≤ l.length := by
  cases l with
  | nil => simp [runs]
  | cons n r => have := runsF_len r n n; rw [runs]; simp; omega
set_option maxRecDepth 10000 in
set_option maxHeartbeats 4000000 in
theorem runs_any (a : Option Addr) (cap : Nat) (L : List Int) (w : World) (hl : L.length ≤ 1000000) (hI : Ins w a L) (hg : goodI L = true) :
    Calls Tryd.prog 46 #[.slice a L.length cap] w fun e w' => (∃ v, e = .returned v ∧ w'.ownsRow w.heap.size 62 2 v (runs L).length ((runs L).flatMap fC)) ∧ Same w w' := by
  refine opq fun R HR => ?_
  have HI := Lib.hid hI
  have HLo := Lib.hid (gI_lo L (-1) hg)
  have HHi := Lib.hid (gI_hi L (-1) hg)
  obtain ⟨i0, hi, hz0, hz1, hz2⟩ := info_parts info62
  have I0 := Lib.hid hi
  have Z0 := Lib.hid hz0
  have Z1 := Lib.hid hz1
  have Z2 := Lib.hid hz2
  clear hi hz0 hz1 hz2 hI hg
  obtain ⟨n, hn⟩ : ∃ n, L.length = n := ⟨_, rfl⟩
  rw [hn] at hl ⊢
  have HN := Lib.hid hn
  clear hn
  go_enter Tryd.func46, Tryd.ntmps46
  go_wp2_with fail
  go_loopw [8, 2] (fun i v wr => ∃ k : Nat, k ≤ n ∧ i = .int .i64 k ∧ wr.ownsRow w.heap.size 62 2 v (runs (L.take k)).length ((runs (L.take k)).flatMap fC) ∧ Same w wr) (fun i _ _ => n - (intOf i).toNat)
  case atStart => exact ⟨0, by omega, rfl, World.ownsRow_nil _ _ _ _, Mod.refl _ _⟩
  case round =>
    obtain ⟨k, hk, rfl, hown, M⟩ := hrel
    have J1 := Lib.hid hown
    have J := Lib.hid M
    have hsz : w.heap.size ≤ wr.heap.size := M.size
    clear hown M
    by_cases hlt : k < n
    · obtain ⟨b1, o1, rfl, hb1, hc1⟩ := HI.out (by rw [HN.out]; omega)
      have hkL : k < L.length := by rw [HN.out]; exact hlt
      obtain ⟨x, hx⟩ : ∃ x, L[k]? = some x := ⟨_, List.getElem?_eq_getElem hkL⟩
      have e0 := (J.out.cell hb1 (fun q => q) (o1 + k)).trans (hc1 k x hx)
      have hlo := HLo.out x (List.mem_of_getElem? hx)
      have hhi := HHi.out x (List.mem_of_getElem? hx)
      have htk : L.take (k + 1) = L.take k ++ [x] := by rw [List.take_add_one, hx]; rfl
      have HT := Lib.hid htk
      clear hc1 htk
      rcases Nat.eq_zero_or_pos k with hk0 | hpos
      · subst hk0
        rw [Nat.add_zero] at e0
        have hr0 : runs (L.take 0) = [] := rfl
        have hr1 : runs (L.take 1) = [(x, x)] := by rw [HT.out]; rfl
        rw [hr0] at J1
        have HR1 := Lib.hid hr1
        obtain ⟨av, cv, rfl, _, _⟩ := fds_own J1.out
        clear hr0 hr1 hx
        simp only [List.length_nil] at J1 ⊢
        go_wp2_with (at_builtin; refine wpList_append_lies _ rfl (.tmp 32) (.tmp 36) 60 rfl w.heap.size 62 i0 (.agg #[.int .i64 0, .int .i64 0]) 2 16 Tryd.underlying60 I0.out Z0.out Z1.out Z2.out rfl (by decide) _ _ _ rfl (J1.out.alloc _) ⟨wr.heap.size, 0, none⟩ 1 1 (fC (x, x)) rfl rfl (two_new wr (x, x) _) (fun u hu => (by simp at hu; rcases hu with rfl | rfl <;> rfl)) (by decide) (by unfold maxLen; omega) (by omega) (by simp only [World.size_alloc]; omega) (wr.heap.size + 1) (by simp) ?_; intro g cp w6 hown' hgrow hat hgl)
        have P1 := Lib.hid (same_append J.out J1.out hgrow)
        have P2 := Lib.hid hown'
        clear hown' hgrow hat
        go_roundw
        case rel => exact ⟨1, by omega, by go_num, by rw [HR1.out]; exact P2.out, P1.out⟩
        case measure => simp [intOf]; omega
      · obtain ⟨m, rfl⟩ : ∃ m, k = m + 1 := ⟨k - 1, by omega⟩
        obtain ⟨y, hy⟩ : ∃ y, L[m]? = some y := ⟨_, List.getElem?_eq_getElem (by omega)⟩
        have hylo := HLo.out y (List.mem_of_getElem? hy)
        have hyhi := HHi.out y (List.mem_of_getElem? hy)
        have htm : L.take (m + 1) = L.take m ++ [y] := by rw [List.take_add_one, hy]; rfl
        obtain ⟨R0, a0, hs1, hs2⟩ := runs_snoc x y (L.take m)
        rw [← htm] at hs1 hs2
        rw [← HT.out] at hs2
        rw [hs1] at J1
        have HS := Lib.hid hs2
        have hRl := runs_len (L.take (m + 1))
        rw [hs1, List.length_take] at hRl
        clear hs1 hs2 htm hx hy
        rw [List.length_append, List.length_singleton] at J1 hRl
        obtain ⟨g, cv, rfl, hg0, hgc, hrow⟩ := RowV.of_owns J1.out (by omega)
        have c1 := hrow.cell (R0.length * 2 + 1) (by omega)
        have hgl := hrow.lt
        have hfz := hrow.free
        have hget : ((R0 ++ [(a0, y)]).flatMap fC).getD (R0.length * 2 + 1) undef = .int .i64 y := by
          rw [List.getD_eq_getElem?_getD, flat2_get _ R0.length 1 (a0, y) (by simp) (by decide)]; rfl
        rw [hget] at c1
        have HFS := Lib.hid (flat2_set R0 a0 y x)
        clear hget hrow
        obtain ⟨rl, hrl⟩ : ∃ rl, R0.length = rl := ⟨_, rfl⟩
        rw [hrl] at J1 hRl hgc c1 HFS ⊢
        have HRL := Lib.hid hrl
        clear hrl
        by_cases hyx : y + 1 = x
        · have hb : ((y + 1) == x) = true := by rw [hyx]; simp
          have HS2 := Lib.hid (HS.out.trans (if_pos hyx))
          obtain ⟨st1, st2⟩ := World.ownsRow.stored J1.out (rl * 2 + 1) (.int .i64 x)
          rw [HFS.out] at st1
          have P2 := Lib.hid st1
          have P1 := Lib.hid (J.out.grown st2 (fun k hk hlt => by cases hk; omega))
          clear st1 st2 hyx
          go_wp2_with fail
          go_roundw
          case rel => exact ⟨m + 1 + 1, by omega, by go_num, by rw [HS2.out, List.length_append, List.length_singleton, HRL.out]; exact P2.out, P1.out⟩
          case measure => simp [intOf]; omega
        · have hb : ((y + 1) == x) = false := beqF hyx
          have HS2 := Lib.hid (HS.out.trans (if_neg hyx))
          clear hyx
          go_wp2_with (at_builtin; refine wpList_append_lies _ rfl (.tmp 32) (.tmp 36) 60 rfl w.heap.size 62 i0 (.agg #[.int .i64 0, .int .i64 0]) 2 16 Tryd.underlying60 I0.out Z0.out Z1.out Z2.out rfl (by decide) _ _ _ rfl (J1.out.alloc _) ⟨wr.heap.size, 0, none⟩ 1 1 (fC (x, x)) rfl rfl (two_new wr (x, x) _) (fun u hu => (by simp at hu; rcases hu with rfl | rfl <;> rfl)) (by decide) (by unfold maxLen; omega) (by omega) (by simp only [World.size_alloc]; omega) (wr.heap.size + 1) (by simp) ?_; intro g6 cp w6 hown' hgrow hat hgl)
          have P1 := Lib.hid (same_append J.out J1.out hgrow)
          have P2 := Lib.hid hown'
          clear hown' hgrow hat
          go_roundw
          case rel => exact ⟨m + 1 + 1, by omega, by go_num, by rw [HS2.out, List.length_append, List.length_append, List.length_singleton, List.length_singleton, HRL.out, List.flatMap_append]; exact P2.out, P1.out⟩
          case measure => simp [intOf]; omega
    · obtain rfl : k = n := by omega
      rw [show L.take k = L from List.take_of_length_le (by rw [HN.out]; exact Nat.le_refl _)] at J1
      go_wp2
      exact HR.out _ _ ⟨⟨_, rfl, J1.out⟩, J.out⟩
end Go.Proofs.YthkcdoneghcglaaDoor
