import Derived.Test.YtjkndfenniongaaGreatDoorAtE
set_option linter.unusedSimpArgs false
set_option linter.unusedVariables false
set_option maxRecDepth 10000
/- The newest of two heads. -/
namespace Go.Proofs.YtjkndfenniongaaGreatDoor
open Go Go.RowKit
/-- The newest head, and which one it is. -/
def newest (a b : List UInt8) : Option (Hd × Nat) := match readH a, readH b with
  | some x, none => some (x, 0)
  | some x, some y => if y.gen ≤ x.gen then some (x, 0) else some (y, 1)
  | none, some y => some (y, 1)
  | none, none => none
def hdOf (o : Option Hd) : Hd := match o with | none => zeroH | some h => h
def errOf (o : Option Hd) : Int := match o with | none => 3 | some _ => 0
theorem five_agg (w : World) (h : Hd) (t : TypeId) : Blk (w.alloc (.cells (hdC h) t)) w.heap.size (hdC h) := Blk.new w _ t
set_option maxHeartbeats 8000000 in
theorem newest_any (a b : List UInt8) (ha : a.length = 16) (hb : b.length = 16) (w : World) : Calls Tryz.prog 34 #[strV a, strV b] w fun e w' => e = .returned (match newest a b with | none => .tuple #[hdV zeroH, .int .i64 0, .int .i64 3] | some (h, i) => .tuple #[hdV h, .int .i64 (i : Int), .int .i64 0]) ∧ Same w w' := by
  refine opq fun R HR => ?_
  have H1 := Lib.hid (fun w => readh_any a ha w)
  have H2 := Lib.hid (fun w => readh_any b hb w)
  have A0 := Lib.hid (Below.alloc (Below.refl w.heap.size w) (Nat.le_refl _) (.cells #[.int .u64 0, .int .i64 0, .int .i64 0, .int .i64 0, .int .i64 0] 53))
  have B0 := Lib.hid (Blk.new w #[.int .u64 0, .int .i64 0, .int .i64 0, .int .i64 0, .int .i64 0] 53)
  unfold newest at HR
  obtain ⟨ra, hra⟩ : ∃ x, readH a = x := ⟨_, rfl⟩
  obtain ⟨rb, hrb⟩ : ∃ x, readH b = x := ⟨_, rfl⟩
  rw [hra] at HR H1
  rw [hrb] at HR H2
  have H1' := Lib.hid (fun w => show Calls Tryz.prog 55 #[strV a] w fun e w' => e = .returned (.tuple #[hdV (hdOf ra), .int .i64 (errOf ra)]) ∧ Same w w' from by
    refine (H1.out w).mono ?_
    rintro e w' ⟨rfl, M⟩
    exact ⟨by cases ra <;> rfl, M⟩)
  have H2' := Lib.hid (fun w => show Calls Tryz.prog 55 #[strV b] w fun e w' => e = .returned (.tuple #[hdV (hdOf rb), .int .i64 (errOf rb)]) ∧ Same w w' from by
    refine (H2.out w).mono ?_
    rintro e w' ⟨rfl, M⟩
    exact ⟨by cases rb <;> rfl, M⟩)
  clear H1 H2 hra hrb ha hb
  unfold strV at H1' H2' ⊢
  obtain ⟨h1, hx⟩ : ∃ h, hdOf ra = h := ⟨_, rfl⟩
  obtain ⟨h2, hy⟩ : ∃ h, hdOf rb = h := ⟨_, rfl⟩
  rw [hx] at H1'
  rw [hy] at H2'
  obtain ⟨g1, r1, p1, q1, c1⟩ := h1
  obtain ⟨g2, r2, p2, q2, c2⟩ := h2
  unfold hdV hdC at H1' H2'
  dsimp only at H1' H2'
  go_enter Tryz.func34, Tryz.ntmps34
  go_wp2_with fail
  generalize w.alloc _ = W0 at *
  refine (H1'.out _).mono ?_
  rintro e w1 ⟨rfl, M⟩
  have N1 := Lib.hid (A0.out.trans (M.to_below A0.out.size))
  have X1 := Lib.hid (B0.out.mod M (fun q => q))
  have hw1 : w.heap.size < w1.heap.size := X1.out.lt
  clear M A0 B0
  go_wp2_with fail
  have N2 := Lib.hid (N1.out.alloc (Nat.le_of_lt hw1) (.cells #[.int .u64 g1, .int .i64 r1, .int .i64 p1, .int .i64 q1, .int .i64 c1] 53))
  have X2 := Lib.hid (X1.out.alloc (.cells #[.int .u64 g1, .int .i64 r1, .int .i64 p1, .int .i64 q1, .int .i64 c1] 53))
  have Y2 := Lib.hid (Blk.new w1 #[.int .u64 g1, .int .i64 r1, .int .i64 p1, .int .i64 q1, .int .i64 c1] 53)
  generalize w1.alloc _ = W2 at *
  generalize w1.heap.size = s1 at *
  refine (H2'.out _).mono ?_
  rintro e w3 ⟨rfl, M⟩
  have N3 := Lib.hid (N2.out.trans (M.to_below N2.out.size))
  have X3 := Lib.hid (X2.out.mod M (fun q => q))
  have Y3 := Lib.hid (Y2.out.mod M (fun q => q))
  have hw3 : w.heap.size < w3.heap.size := X3.out.lt
  clear M N1 X1 N2 X2 Y2
  have N4 := Lib.hid (N3.out.alloc (Nat.le_of_lt hw3) (.cells #[.int .u64 g2, .int .i64 r2, .int .i64 p2, .int .i64 q2, .int .i64 c2] 53))
  have X4 := Lib.hid (X3.out.alloc (.cells #[.int .u64 g2, .int .i64 r2, .int .i64 p2, .int .i64 q2, .int .i64 c2] 53))
  have Y4 := Lib.hid (Y3.out.alloc (.cells #[.int .u64 g2, .int .i64 r2, .int .i64 p2, .int .i64 q2, .int .i64 c2] 53))
  have Z4 := Lib.hid (Blk.new w3 #[.int .u64 g2, .int .i64 r2, .int .i64 p2, .int .i64 q2, .int .i64 c2] 53)
  have hs4 : s1 < w3.heap.size := Y3.out.lt
  have hs0 : w.heap.size < s1 := hw1
  obtain ⟨W4, hW4⟩ : ∃ W, w3.alloc (.cells #[.int .u64 g2, .int .i64 r2, .int .i64 p2, .int .i64 q2, .int .i64 c2] 53) = W := ⟨_, rfl⟩
  rw [hW4] at N4 X4 Y4 Z4
  have xb0 := X4.out.free 0
  have xb1 := X4.out.free 1
  have xb2 := X4.out.free 2
  have xb3 := X4.out.free 3
  have xb4 := X4.out.free 4
  have xa0 := X4.out.at_ (i := 0) _ rfl
  have xa1 := X4.out.at_ (i := 1) _ rfl
  have xa2 := X4.out.at_ (i := 2) _ rfl
  have xa3 := X4.out.at_ (i := 3) _ rfl
  have xa4 := X4.out.at_ (i := 4) _ rfl
  have ya0 := Y4.out.at_ (i := 0) _ rfl
  have ya1 := Y4.out.at_ (i := 1) _ rfl
  have ya2 := Y4.out.at_ (i := 2) _ rfl
  have ya3 := Y4.out.at_ (i := 3) _ rfl
  have ya4 := Y4.out.at_ (i := 4) _ rfl
  have za0 := Z4.out.at_ (i := 0) _ rfl
  have za1 := Z4.out.at_ (i := 1) _ rfl
  have za2 := Z4.out.at_ (i := 2) _ rfl
  have za3 := Z4.out.at_ (i := 3) _ rfl
  have za4 := Z4.out.at_ (i := 4) _ rfl
  clear N3 X3 Y3
  cases ra with
  | none =>
    cases rb with
    | none =>
      dsimp only [errOf, zeroH, hdV, hdC] at HR ⊢
      have Y := Lib.hid (five_set X4.out (.int .u64 0) (.int .i64 0) (.int .i64 0) (.int .i64 0) (.int .i64 0))
      have N := Lib.hid (Same.of_below (N4.out.trans (modR_below (five_mod _ w.heap.size (.int .u64 0) (.int .i64 0) (.int .i64 0) (.int .i64 0) (.int .i64 0)) N4.out.size (Nat.le_refl _))))
      clear X4 N4 Y4 Z4
      go_wp2_with fail
      generalize World.setCell _ _ _ = w20 at *
      have kk0 := Y.out.at_ (i := 0) _ rfl
      have kk1 := Y.out.at_ (i := 1) _ rfl
      have kk2 := Y.out.at_ (i := 2) _ rfl
      have kk3 := Y.out.at_ (i := 3) _ rfl
      have kk4 := Y.out.at_ (i := 4) _ rfl
      exact bodyPost_ret (v := .tuple #[.agg #[.int .u64 0, .int .i64 0, .int .i64 0, .int .i64 0, .int .i64 0], .int .i64 0, .int .i64 3]) (by simp [results, Tryz.results34, go_sem, kk0, kk1, kk2, kk3, kk4]) rfl (HR.out _ _ ⟨rfl, N.out⟩)
    | some y =>
      obtain rfl : y = ⟨g2, r2, p2, q2, c2⟩ := hy
      dsimp only [errOf, zeroH, hdV, hdC] at HR ⊢
      have Y := Lib.hid (five_set X4.out (.int .u64 g2) (.int .i64 r2) (.int .i64 p2) (.int .i64 q2) (.int .i64 c2))
      have N := Lib.hid (Same.of_below (N4.out.trans (modR_below (five_mod _ w.heap.size (.int .u64 g2) (.int .i64 r2) (.int .i64 p2) (.int .i64 q2) (.int .i64 c2)) N4.out.size (Nat.le_refl _))))
      clear X4 N4 Y4 Z4
      go_wp2_with fail
      generalize World.setCell _ _ _ = w20 at *
      have kk0 := Y.out.at_ (i := 0) _ rfl
      have kk1 := Y.out.at_ (i := 1) _ rfl
      have kk2 := Y.out.at_ (i := 2) _ rfl
      have kk3 := Y.out.at_ (i := 3) _ rfl
      have kk4 := Y.out.at_ (i := 4) _ rfl
      exact bodyPost_ret (v := .tuple #[.agg #[.int .u64 g2, .int .i64 r2, .int .i64 p2, .int .i64 q2, .int .i64 c2], .int .i64 1, .int .i64 0]) (by simp [results, Tryz.results34, go_sem, kk0, kk1, kk2, kk3, kk4]) rfl (HR.out _ _ ⟨rfl, N.out⟩)
  | some x =>
    obtain rfl : x = ⟨g1, r1, p1, q1, c1⟩ := hx
    cases rb with
    | none =>
      dsimp only [errOf, zeroH, hdV, hdC] at HR ⊢
      have Y := Lib.hid (five_set X4.out (.int .u64 g1) (.int .i64 r1) (.int .i64 p1) (.int .i64 q1) (.int .i64 c1))
      have N := Lib.hid (Same.of_below (N4.out.trans (modR_below (five_mod _ w.heap.size (.int .u64 g1) (.int .i64 r1) (.int .i64 p1) (.int .i64 q1) (.int .i64 c1)) N4.out.size (Nat.le_refl _))))
      clear X4 N4 Y4 Z4
      go_wp2_with fail
      generalize World.setCell _ _ _ = w20 at *
      have kk0 := Y.out.at_ (i := 0) _ rfl
      have kk1 := Y.out.at_ (i := 1) _ rfl
      have kk2 := Y.out.at_ (i := 2) _ rfl
      have kk3 := Y.out.at_ (i := 3) _ rfl
      have kk4 := Y.out.at_ (i := 4) _ rfl
      exact bodyPost_ret (v := .tuple #[.agg #[.int .u64 g1, .int .i64 r1, .int .i64 p1, .int .i64 q1, .int .i64 c1], .int .i64 0, .int .i64 0]) (by simp [results, Tryz.results34, go_sem, kk0, kk1, kk2, kk3, kk4]) rfl (HR.out _ _ ⟨rfl, N.out⟩)
    | some y =>
      obtain rfl : y = ⟨g2, r2, p2, q2, c2⟩ := hy
      dsimp only [errOf, zeroH, hdV, hdC] at HR ⊢
      by_cases hgg : g2 ≤ g1
      · rw [if_pos hgg] at HR
        dsimp only at HR
        have Y := Lib.hid (five_set X4.out (.int .u64 g1) (.int .i64 r1) (.int .i64 p1) (.int .i64 q1) (.int .i64 c1))
        have N := Lib.hid (Same.of_below (N4.out.trans (modR_below (five_mod _ w.heap.size (.int .u64 g1) (.int .i64 r1) (.int .i64 p1) (.int .i64 q1) (.int .i64 c1)) N4.out.size (Nat.le_refl _))))
        clear X4 N4 Y4 Z4
        go_wp2_with fail
        generalize World.setCell _ _ _ = w20 at *
        have kk0 := Y.out.at_ (i := 0) _ rfl
        have kk1 := Y.out.at_ (i := 1) _ rfl
        have kk2 := Y.out.at_ (i := 2) _ rfl
        have kk3 := Y.out.at_ (i := 3) _ rfl
        have kk4 := Y.out.at_ (i := 4) _ rfl
        exact bodyPost_ret (v := .tuple #[.agg #[.int .u64 g1, .int .i64 r1, .int .i64 p1, .int .i64 q1, .int .i64 c1], .int .i64 0, .int .i64 0]) (by simp [results, Tryz.results34, go_sem, kk0, kk1, kk2, kk3, kk4]) rfl (HR.out _ _ ⟨rfl, N.out⟩)
      · rw [if_neg hgg] at HR
        dsimp only at HR
        have Y := Lib.hid (five_set X4.out (.int .u64 g2) (.int .i64 r2) (.int .i64 p2) (.int .i64 q2) (.int .i64 c2))
        have N := Lib.hid (Same.of_below (N4.out.trans (modR_below (five_mod _ w.heap.size (.int .u64 g2) (.int .i64 r2) (.int .i64 p2) (.int .i64 q2) (.int .i64 c2)) N4.out.size (Nat.le_refl _))))
        clear X4 N4 Y4 Z4
        go_wp2_with fail
        generalize World.setCell _ _ _ = w20 at *
        have kk0 := Y.out.at_ (i := 0) _ rfl
        have kk1 := Y.out.at_ (i := 1) _ rfl
        have kk2 := Y.out.at_ (i := 2) _ rfl
        have kk3 := Y.out.at_ (i := 3) _ rfl
        have kk4 := Y.out.at_ (i := 4) _ rfl
        exact bodyPost_ret (v := .tuple #[.agg #[.int .u64 g2, .int .i64 r2, .int .i64 p2, .int .i64 q2, .int .i64 c2], .int .i64 1, .int .i64 0]) (by simp [results, Tryz.results34, go_sem, kk0, kk1, kk2, kk3, kk4]) rfl (HR.out _ _ ⟨rfl, N.out⟩)
end Go.Proofs.YtjkndfenniongaaGreatDoor
