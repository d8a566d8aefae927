import Derived.Test.YthkcdoneghcglaaDoorScrD
set_option linter.unusedSimpArgs false
set_option linter.unusedVariables false
/- The document's look for a chunk's sum; whether sums can be. -/
namespace Go.Proofs.YthkcdoneghcglaaDoor
open Go Go.RowKit
abbrev ansO (o : Option Sm) : Value := match o with | some x => .tuple #[smV x, .bool true] | none => .tuple #[smV sm0, .bool false]
theorem ofL_none {L : List Sm} {c : Int} (h : ∀ (j : Nat) (x : Sm), L[j]? = some x → x.c ≠ c) : ofL L c = none := by
  unfold ofL
  rw [List.find?_eq_none]
  intro x hx
  obtain ⟨j, hj⟩ := List.mem_iff_getElem?.1 hx
  simpa using h j x hj
theorem ofL_some {L : List Sm} {c : Int} {k : Nat} {x : Sm} (h : ∀ (j : Nat) (y : Sm), j < k → L[j]? = some y → y.c ≠ c) (hx : L[k]? = some x) (hc : x.c = c) : ofL L c = some x := by
  unfold ofL
  rw [List.find?_eq_some_iff_getElem]
  obtain ⟨hk, rfl⟩ := List.getElem?_eq_some_iff.1 hx
  refine ⟨by simpa using hc, k, hk, rfl, fun j hj => ?_⟩
  have := h j L[j] hj (List.getElem?_eq_getElem (by omega))
  simpa using this
set_option maxHeartbeats 4000000 in
theorem of_any (a : Option Addr) (cap : Nat) (L : List Sm) (c : Int) (w : World) (hl : L.length ≤ 1000000) (hI : Sms w a L) :
    Calls Tryd.prog 33 #[.slice a L.length cap, .int .i64 c] w fun e w' => e = .returned (ansO (ofL L c)) ∧ Same w w' := by
  refine opq fun R HR => ?_
  have HI := Lib.hid hI
  clear hI
  obtain ⟨n, hn⟩ : ∃ n, L.length = n := ⟨_, rfl⟩
  rw [hn] at hl ⊢
  have HN := Lib.hid hn
  clear hn
  go_enter Tryd.func33, Tryd.ntmps33
  go_wp2_with fail
  have M0 := Lib.hid ((Mod.refl (fun _ => False) w).alloc (.cells #[.int .i64 0, .int .i64 0, .int .i64 0, .int .u32 0] 65))
  have B0 := Lib.hid (Blk.new w #[.int .i64 0, .int .i64 0, .int .i64 0, .int .u32 0] 65)
  generalize w.alloc _ = W at *
  generalize hZ : w.heap.size = Z at *
  go_loopw [6] (fun i wr => ∃ k : Nat, k ≤ n ∧ i = .int .i64 k ∧ (∀ (j : Nat) (y : Sm), j < k → L[j]? = some y → y.c ≠ c) ∧ wr = W) (fun i _ => n - (intOf i).toNat)
  case atStart => exact ⟨0, by omega, rfl, (fun j y hj => by omega), rfl⟩
  case round =>
    obtain ⟨k, hk, rfl, hno, rfl⟩ := hrel
    have hc := B0.out.cell
    have hf := B0.out.free
    by_cases hlt : k < n
    · obtain ⟨b1, o1, rfl, hb1, hc1⟩ := HI.out (by rw [HN.out]; omega)
      have hkL : k < L.length := by rw [HN.out]; exact hlt
      obtain ⟨x, hx⟩ : ∃ x, L[k]? = some x := ⟨_, List.getElem?_eq_getElem hkL⟩
      obtain ⟨e0, e1, e2, e3⟩ := cell4_same M0.out hb1 (hc1 k x hx)
      by_cases hxc : x.c = c
      · rw [ofL_some hno hx hxc] at HR
        have HX := Lib.hid hxc
        clear hno hx hc1 hxc
        obtain ⟨c', t, s, h⟩ := x
        dsimp only at e0 e1 e2 e3 HX HR
        have hcc := HX.out
        subst hcc
        go_wp2
        have B4 := (((B0.out.set 0 (.int .i64 c')).set 1 (.int .i64 t)).set 2 (.int .i64 s)).set 3 (.int .u32 (h : Int))
        have M4 := (((M0.out.setCell (p := ⟨Z, 0, none⟩) (fun q => by dsimp only at q; omega) (.int .i64 c')).setCell (p := ⟨Z, 1, none⟩) (fun q => by dsimp only at q; omega) (.int .i64 t)).setCell (p := ⟨Z, 2, none⟩) (fun q => by dsimp only at q; omega) (.int .i64 s)).setCell (p := ⟨Z, 3, none⟩) (fun q => by dsimp only at q; omega) (.int .u32 (h : Int))
        have g0 := B4.cell 0
        have g1 := B4.cell 1
        have g2 := B4.cell 2
        have g3 := B4.cell 3
        have R2 := HR.out _ _ ⟨rfl, M4⟩
        clear B4 M4 hc hf
        generalize World.setCell _ _ _ = W9 at *
        exact bodyPost_ret (v := .tuple #[.agg #[.int .i64 c', .int .i64 t, .int .i64 s, .int .u32 (h : Int)], .bool true]) (by simp [results, Tryd.results33, go_sem, g0, g1, g2, g3]) rfl R2
      · have hno2 := Lib.hid (show ∀ (j : Nat) (y : Sm), j < k + 1 → L[j]? = some y → y.c ≠ c by
          intro j y hj hy
          by_cases e : j = k
          · subst e; rw [hx] at hy; cases hy; exact hxc
          · exact hno j y (by omega) hy)
        have b1 := beqF hxc
        clear hno hx hc1 hxc
        generalize x.c = xc at *
        go_wp2
        go_roundw
        case rel => exact ⟨k + 1, by omega, by go_num, hno2.out, trivial⟩
        case measure => simp [intOf]; omega
    · obtain rfl : k = n := by omega
      rw [ofL_none fun j x hx => hno j x (by have := (List.getElem?_eq_some_iff.1 hx).1; rw [HN.out] at this; exact this) hx] at HR
      clear hno
      go_wp2
      have B4 := (((B0.out.set 0 (.int .i64 0)).set 1 (.int .i64 0)).set 2 (.int .i64 0)).set 3 (.int .u32 0)
      have M4 := (((M0.out.setCell (p := ⟨Z, 0, none⟩) (fun q => by dsimp only at q; omega) (.int .i64 0)).setCell (p := ⟨Z, 1, none⟩) (fun q => by dsimp only at q; omega) (.int .i64 0)).setCell (p := ⟨Z, 2, none⟩) (fun q => by dsimp only at q; omega) (.int .i64 0)).setCell (p := ⟨Z, 3, none⟩) (fun q => by dsimp only at q; omega) (.int .u32 0)
      have g0 := B4.cell 0
      have g1 := B4.cell 1
      have g2 := B4.cell 2
      have g3 := B4.cell 3
      have R2 := HR.out _ _ ⟨rfl, M4⟩
      clear B4 M4 hc hf
      generalize World.setCell _ _ _ = W9 at *
      exact bodyPost_ret (v := .tuple #[.agg #[.int .i64 0, .int .i64 0, .int .i64 0, .int .u32 0], .bool false]) (by simp [results, Tryd.results33, go_sem, g0, g1, g2, g3]) rfl R2
end Go.Proofs.YthkcdoneghcglaaDoor
