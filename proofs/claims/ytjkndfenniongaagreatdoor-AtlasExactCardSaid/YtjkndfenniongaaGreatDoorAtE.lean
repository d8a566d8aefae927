import Derived.Test.YtjkndfenniongaaGreatDoorAtD
set_option linter.unusedSimpArgs false
set_option linter.unusedVariables false
set_option maxRecDepth 10000
/- Heads are read. -/
namespace Go.Proofs.YtjkndfenniongaaGreatDoor
open Go Go.RowKit
def parseH (t : List UInt8) : Hd := ⟨leV ((t.drop 6).take 4), leV ((t.drop 10).take 2), leV ((t.drop 2).take 2), leV ((t.drop 4).take 2), leV ((t.drop 1).take 1)⟩
def readH (l : List UInt8) : Option Hd := match openL l with
  | none => none
  | some t => if leV (t.take 1) = 84 ∧ goodH (parseH t) = true then some (parseH t) else none
def zeroH : Hd := ⟨0, 0, 0, 0, 0⟩
theorem openL_len {l t : List UInt8} (h : openL l = some t) : t.length + 4 = l.length := by
  unfold openL at h
  split at h
  · cases h
  · split at h
    · cases h; rw [List.length_take]; omega
    · cases h
theorem len12 {t : List UInt8} (h : t.length = 12) : ∃ a b c d e f g i j k m n, t = [a, b, c, d, e, f, g, i, j, k, m, n] := by
  match t, h with
  | [a, b, c, d, e, f, g, i, j, k, m, n], _ => exact ⟨a, b, c, d, e, f, g, i, j, k, m, n, rfl⟩
theorem modR_below {B r : Nat} {w w' : World} (M : Mod (fun i => i = r) w w') (h : B ≤ w.heap.size) (hr : B ≤ r) : Below B w w' := Mod.below M h fun i hi q => by omega
theorem five_set {w : World} {b : Nat} {a0 a1 a2 a3 a4 : Value} (h : Blk w b #[a0, a1, a2, a3, a4]) (v0 v1 v2 v3 v4 : Value) :
    Blk (((((w.setCell ⟨b, 0, none⟩ v0).setCell ⟨b, 1, none⟩ v1).setCell ⟨b, 2, none⟩ v2).setCell ⟨b, 3, none⟩ v3).setCell ⟨b, 4, none⟩ v4) b #[v0, v1, v2, v3, v4] :=
  ((((h.set 0 v0).set 1 v1).set 2 v2).set 3 v3).set 4 v4
theorem five_mod (w : World) (b : Nat) (v0 v1 v2 v3 v4 : Value) :
    Mod (fun i => i = b) w (((((w.setCell ⟨b, 0, none⟩ v0).setCell ⟨b, 1, none⟩ v1).setCell ⟨b, 2, none⟩ v2).setCell ⟨b, 3, none⟩ v3).setCell ⟨b, 4, none⟩ v4) :=
  (((((Mod.refl (fun i => i = b) w).setCell (p := ⟨b, 0, none⟩) (fun _ => rfl) v0).setCell (p := ⟨b, 1, none⟩) (fun _ => rfl) v1).setCell (p := ⟨b, 2, none⟩) (fun _ => rfl) v2).setCell (p := ⟨b, 3, none⟩) (fun _ => rfl) v3).setCell (p := ⟨b, 4, none⟩) (fun _ => rfl) v4
set_option maxHeartbeats 8000000 in
theorem readh_any (l : List UInt8) (hl : l.length = 16) (w : World) : Calls Tryz.prog 55 #[strV l] w fun e w' => e = .returned (match readH l with | none => .tuple #[hdV zeroH, .int .i64 3] | some h => .tuple #[hdV h, .int .i64 0]) ∧ Same w w' := by
  refine opq fun R HR => ?_
  have HO := Lib.hid (fun w => open_any l w (by omega))
  unfold readH at HR
  have A0 := Lib.hid (Below.alloc (Below.refl w.heap.size w) (Nat.le_refl _) (.cells #[.int .u64 0, .int .i64 0, .int .i64 0, .int .i64 0, .int .i64 0] 53))
  have B0 := Lib.hid (Blk.new w #[.int .u64 0, .int .i64 0, .int .i64 0, .int .i64 0, .int .i64 0] 53)
  have hb : w.heap.size < (w.alloc (.cells #[.int .u64 0, .int .i64 0, .int .i64 0, .int .i64 0, .int .i64 0] 53)).heap.size := by simp
  unfold strV
  cases ho : openL l with
  | none =>
    rw [ho] at HR HO
    dsimp only at HR HO
    unfold zeroH hdV hdC at HR
    dsimp only at HR
    go_enter Tryz.func55, Tryz.ntmps55
    go_wp2_with fail
    generalize w.alloc _ = W0 at *
    refine (HO.out _).mono ?_
    rintro e w1 ⟨rfl, M⟩
    have N1 := Lib.hid (A0.out.trans (M.to_below A0.out.size))
    have X1 := B0.out.mod M (fun q => q)
    have c0 := X1.at_ (i := 0) _ rfl
    have c1 := X1.at_ (i := 1) _ rfl
    have c2 := X1.at_ (i := 2) _ rfl
    have c3 := X1.at_ (i := 3) _ rfl
    have c4 := X1.at_ (i := 4) _ rfl
    have f0 := X1.free 0
    have f1 := X1.free 1
    have f2 := X1.free 2
    have f3 := X1.free 3
    have f4 := X1.free 4
    have Y := Lib.hid (five_set X1 (.int .u64 0) (.int .i64 0) (.int .i64 0) (.int .i64 0) (.int .i64 0))
    have N2 := Lib.hid (Same.of_below (N1.out.trans (modR_below (five_mod w1 w.heap.size (.int .u64 0) (.int .i64 0) (.int .i64 0) (.int .i64 0) (.int .i64 0)) N1.out.size (Nat.le_refl _))))
    clear M X1 A0 B0 N1
    go_wp2_with fail
    generalize World.setCell _ _ _ = w2 at *
    have c0 := Y.out.at_ (i := 0) _ rfl
    have c1 := Y.out.at_ (i := 1) _ rfl
    have c2 := Y.out.at_ (i := 2) _ rfl
    have c3 := Y.out.at_ (i := 3) _ rfl
    have c4 := Y.out.at_ (i := 4) _ rfl
    exact bodyPost_ret (v := .tuple #[.agg #[.int .u64 0, .int .i64 0, .int .i64 0, .int .i64 0, .int .i64 0], .int .i64 3]) (by simp [results, Tryz.results55, go_sem, c0, c1, c2, c3, c4]) rfl (HR.out _ _ ⟨rfl, N2.out⟩)
  | some t =>
    rw [ho] at HR HO
    dsimp only at HR HO
    have ht := openL_len ho
    obtain ⟨x0, x1, x2, x3, x4, x5, x6, x7, x8, x9, x10, x11, rfl⟩ := len12 (t := t) (by omega)
    clear ht ho
    rw [show parseH [x0, x1, x2, x3, x4, x5, x6, x7, x8, x9, x10, x11] = ⟨leV [x6, x7, x8, x9], leV [x10, x11], leV [x2, x3], leV [x4, x5], leV [x1]⟩ from rfl, show [x0, x1, x2, x3, x4, x5, x6, x7, x8, x9, x10, x11].take 1 = [x0] from rfl] at HR
    have v0 := leV_bd [x0]
    have v1 := leV_bd [x1]
    have v2 := leV_bd [x2, x3]
    have v3 := leV_bd [x4, x5]
    have v4 := leV_bd [x6, x7, x8, x9]
    have v5 := leV_bd [x10, x11]
    simp only [List.length_cons, List.length_nil] at v0 v1 v2 v3 v4 v5
    generalize hl0 : leV [x0] = kd at *
    generalize hl1 : leV [x1] = ch at *
    generalize hl2 : leV [x2, x3] = s0 at *
    generalize hl3 : leV [x4, x5] = s1 at *
    generalize hl4 : leV [x6, x7, x8, x9] = gen at *
    generalize hl5 : leV [x10, x11] = root at *
    have i1 : IntKind.i64.wrap ch = ch := IntWalk.i64_in _ (by omega)
    have i2 : IntKind.i64.wrap s0 = s0 := IntWalk.i64_in _ (by omega)
    have i3 : IntKind.i64.wrap s1 = s1 := IntWalk.i64_in _ (by omega)
    have i5 : IntKind.i64.wrap root = root := IntWalk.i64_in _ (by omega)
    have g1 := Lib.hid (fun r w h => get_any r [x0, x1, x2, x3, x4, x5, x6, x7, x8, x9, x10, x11] false 1 1 (by decide) w h (by simp))
    have g2 := Lib.hid (fun r w h => get_any r [x1, x2, x3, x4, x5, x6, x7, x8, x9, x10, x11] false 1 1 (by decide) w h (by simp))
    have g3 := Lib.hid (fun r w h => get_any r [x2, x3, x4, x5, x6, x7, x8, x9, x10, x11] false 2 2 (by decide) w h (by simp))
    have g4 := Lib.hid (fun r w h => get_any r [x4, x5, x6, x7, x8, x9, x10, x11] false 2 2 (by decide) w h (by simp))
    have g5 := Lib.hid (fun r w h => get_any r [x6, x7, x8, x9, x10, x11] false 4 4 (by decide) w h (by simp))
    have g6 := Lib.hid (fun r w h => get_any r [x10, x11] false 2 2 (by decide) w h (by simp))
    rw [show takeL [x0, x1, x2, x3, x4, x5, x6, x7, x8, x9, x10, x11] false 1 = ([x0], [x1, x2, x3, x4, x5, x6, x7, x8, x9, x10, x11], false) from rfl, hl0] at g1
    rw [show takeL [x1, x2, x3, x4, x5, x6, x7, x8, x9, x10, x11] false 1 = ([x1], [x2, x3, x4, x5, x6, x7, x8, x9, x10, x11], false) from rfl, hl1] at g2
    rw [show takeL [x2, x3, x4, x5, x6, x7, x8, x9, x10, x11] false 2 = ([x2, x3], [x4, x5, x6, x7, x8, x9, x10, x11], false) from rfl, hl2] at g3
    rw [show takeL [x4, x5, x6, x7, x8, x9, x10, x11] false 2 = ([x4, x5], [x6, x7, x8, x9, x10, x11], false) from rfl, hl3] at g4
    rw [show takeL [x6, x7, x8, x9, x10, x11] false 4 = ([x6, x7, x8, x9], [x10, x11], false) from rfl, hl4] at g5
    rw [show takeL [x10, x11] false 2 = ([x10, x11], [], false) from rfl, hl5] at g6
    dsimp only at g1 g2 g3 g4 g5 g6
    clear hl0 hl1 hl2 hl3 hl4 hl5
    go_enter Tryz.func55, Tryz.ntmps55
    go_wp2_with fail
    generalize w.alloc _ = W0 at *
    refine (HO.out _).mono ?_
    rintro e w1 ⟨rfl, M⟩
    have N1 := Lib.hid (A0.out.trans (M.to_below A0.out.size))
    have X1 := Lib.hid (B0.out.mod M (fun q => q))
    clear M A0 B0 HO hb
    go_wp2_with fail
    refine (of_any _ w1).mono ?_
    rintro e w2 ⟨rfl, hr, M⟩
    have hwr : w.heap.size < w1.heap.size := X1.out.lt
    have N2 := Lib.hid (N1.out.trans (M.to_below N1.out.size))
    have X2 := Lib.hid (X1.out.mod M (fun q => q))
    have R2 := Lib.hid hr
    generalize w1.heap.size = r at *
    clear M hr N1 X1
    go_wp2_with fail
    refine (g1.out _ w2 R2.out).mono ?_
    rintro e w3 ⟨rfl, hr, M⟩
    have N3 := Lib.hid (N2.out.trans (modR_below M N2.out.size (by omega)))
    have X3 := Lib.hid (X2.out.mod M (fun q => by omega))
    have R3 := Lib.hid hr
    clear M hr N2 X2 R2 g1
    go_wp2_with fail
    refine (g2.out _ w3 R3.out).mono ?_
    rintro e w4 ⟨rfl, hr, M⟩
    have N4 := Lib.hid (N3.out.trans (modR_below M N3.out.size (by omega)))
    have X4 := Lib.hid (X3.out.mod M (fun q => by omega))
    have R4 := Lib.hid hr
    clear M hr N3 X3 R3 g2
    have Y4 := Lib.hid (Blk.new w4 #[.int .u64 0, .int .i64 0, .int .i64 0, .int .i64 0, .int .i64 ch] 53)
    have M4 := Lib.hid ((Mod.refl (fun i => i = w4.heap.size) w4).alloc (.cells #[.int .u64 0, .int .i64 0, .int .i64 0, .int .i64 0, .int .i64 ch] 53))
    go_wp2_with fail
    generalize w4.alloc _ = w5 at *
    have hrH : r < w4.heap.size := R4.out.lt
    have hwH : w.heap.size < w4.heap.size := X4.out.lt
    have N5 := Lib.hid (N4.out.trans (modR_below M4.out N4.out.size (by omega)))
    have X5 := Lib.hid (X4.out.mod M4.out (fun q => by omega))
    have R5 := Lib.hid (R4.out.mod M4.out (fun q => by omega))
    generalize w4.heap.size = H at *
    clear N4 X4 R4 M4
    go_loopw [27, 9] (fun vi _ wr => ∃ k : Nat, vi = .int .i64 (k : Int) ∧ ((k = 0 ∧ Blk wr r (rcells [x2, x3, x4, x5, x6, x7, x8, x9, x10, x11] false) ∧ Blk wr H #[.int .u64 0, .int .i64 0, .int .i64 0, .int .i64 0, .int .i64 ch]) ∨ (k = 1 ∧ Blk wr r (rcells [x4, x5, x6, x7, x8, x9, x10, x11] false) ∧ Blk wr H #[.int .u64 0, .int .i64 0, .int .i64 s0, .int .i64 0, .int .i64 ch]) ∨ (k = 2 ∧ Blk wr r (rcells [x6, x7, x8, x9, x10, x11] false) ∧ Blk wr H #[.int .u64 0, .int .i64 0, .int .i64 s0, .int .i64 s1, .int .i64 ch])) ∧ Blk wr w.heap.size #[.int .u64 0, .int .i64 0, .int .i64 0, .int .i64 0, .int .i64 0] ∧ Below w.heap.size w wr) (fun vi _ _ => 2 - (intOf vi).toNat)
    case atStart => exact ⟨0, rfl, .inl ⟨rfl, R5.out, Y4.out⟩, X5.out, N5.out⟩
    case round =>
      obtain ⟨k, rfl, hd, hx, hn⟩ := hrel
      have X6 := Lib.hid hx
      have N6 := Lib.hid hn
      clear hx hn X5 R5 Y4 N5
      rcases hd with ⟨rfl, q, h'⟩ | ⟨rfl, q, h'⟩ | ⟨rfl, q, h'⟩
      all_goals (have Q := Lib.hid q; have G := Lib.hid h'; clear q h')
      · have q0 := G.out.at_ (i := 2) _ rfl
        have f0 := G.out.free 2
        go_wp2_with fail
        refine (g3.out _ wr Q.out).mono ?_
        rintro e w6 ⟨rfl, hr, M⟩
        have N7 := Lib.hid (N6.out.trans (modR_below M N6.out.size (by omega)))
        have X7 := Lib.hid (X6.out.mod M (fun q => by omega))
        have G7 := Lib.hid (G.out.mod M (fun q => by omega))
        have f0 := G7.out.free 2
        have q0 := G7.out.at_ (i := 2) _ rfl
        have Q7 := Lib.hid ((show Blk w6 r (rcells [x4, x5, x6, x7, x8, x9, x10, x11] false) from hr).set_far (p := ⟨H, 2, none⟩) (show H ≠ r by omega) (.int .i64 s0))
        have G8 := Lib.hid (G7.out.set 2 (.int .i64 s0))
        have X8 := Lib.hid (X7.out.set_far (p := ⟨H, 2, none⟩) (show H ≠ w.heap.size by omega) (.int .i64 s0))
        have N8 := Lib.hid (N7.out.setCell (p := ⟨H, 2, none⟩) (show w.heap.size ≤ H by omega) (.int .i64 s0))
        clear M hr N6 X6 Q G N7 X7 G7
        go_wp2_with fail
        go_roundw
        case rel => exact ⟨1, by first | rfl | go_num, .inr (.inl ⟨rfl, Q7.out, G8.out⟩), X8.out, N8.out⟩
        case measure => simp [intOf]
      · have q0 := G.out.at_ (i := 3) _ rfl
        have f0 := G.out.free 3
        go_wp2_with fail
        refine (g4.out _ wr Q.out).mono ?_
        rintro e w6 ⟨rfl, hr, M⟩
        have N7 := Lib.hid (N6.out.trans (modR_below M N6.out.size (by omega)))
        have X7 := Lib.hid (X6.out.mod M (fun q => by omega))
        have G7 := Lib.hid (G.out.mod M (fun q => by omega))
        have f0 := G7.out.free 3
        have q0 := G7.out.at_ (i := 3) _ rfl
        have Q7 := Lib.hid ((show Blk w6 r (rcells [x6, x7, x8, x9, x10, x11] false) from hr).set_far (p := ⟨H, 3, none⟩) (show H ≠ r by omega) (.int .i64 s1))
        have G8 := Lib.hid (G7.out.set 3 (.int .i64 s1))
        have X8 := Lib.hid (X7.out.set_far (p := ⟨H, 3, none⟩) (show H ≠ w.heap.size by omega) (.int .i64 s1))
        have N8 := Lib.hid (N7.out.setCell (p := ⟨H, 3, none⟩) (show w.heap.size ≤ H by omega) (.int .i64 s1))
        clear M hr N6 X6 Q G N7 X7 G7
        go_wp2_with fail
        go_roundw
        case rel => exact ⟨2, by first | rfl | go_num, .inr (.inr ⟨rfl, Q7.out, G8.out⟩), X8.out, N8.out⟩
        case measure => simp [intOf]
      · go_wp2_with fail
        refine (g5.out _ wr Q.out).mono ?_
        rintro e w6 ⟨rfl, hr, M⟩
        have N7 := Lib.hid (N6.out.trans (modR_below M N6.out.size (by omega)))
        have X7 := Lib.hid (X6.out.mod M (fun q => by omega))
        have G7 := Lib.hid (G.out.mod M (fun q => by omega))
        have f0 := G7.out.free 0
        have q0 := G7.out.at_ (i := 0) _ rfl
        have Q8 := Lib.hid ((show Blk w6 r (rcells [x10, x11] false) from hr).set_far (p := ⟨H, 0, none⟩) (show H ≠ r by omega) (.int .u64 gen))
        have G8 := Lib.hid (G7.out.set 0 (.int .u64 gen))
        have X8 := Lib.hid (X7.out.set_far (p := ⟨H, 0, none⟩) (show H ≠ w.heap.size by omega) (.int .u64 gen))
        have N8 := Lib.hid (N7.out.setCell (p := ⟨H, 0, none⟩) (show w.heap.size ≤ H by omega) (.int .u64 gen))
        clear M hr N6 X6 Q G N7 X7 G7
        go_wp2_with fail
        generalize World.setCell _ _ _ = w7 at *
        clear f0 q0
        refine (g6.out _ w7 Q8.out).mono ?_
        rintro e w8 ⟨rfl, hr, M⟩
        have N9 := Lib.hid (N8.out.trans (modR_below M N8.out.size (by omega)))
        have X9 := Lib.hid (X8.out.mod M (fun q => by omega))
        have G9 := Lib.hid (show Blk w8 H #[.int .u64 gen, .int .i64 0, .int .i64 s0, .int .i64 s1, .int .i64 ch] from G8.out.mod M (fun q => by omega))
        have f0 := G9.out.free 1
        have q0 := G9.out.at_ (i := 1) _ rfl
        have Q10 := Lib.hid ((show Blk w8 r (rcells [] false) from hr).set_far (p := ⟨H, 1, none⟩) (show H ≠ r by omega) (.int .i64 root))
        have G10 := Lib.hid (show Blk (w8.setCell ⟨H, 1, none⟩ (.int .i64 root)) H #[.int .u64 gen, .int .i64 root, .int .i64 s0, .int .i64 s1, .int .i64 ch] from G9.out.set 1 (.int .i64 root))
        have X10 := Lib.hid (X9.out.set_far (p := ⟨H, 1, none⟩) (show H ≠ w.heap.size by omega) (.int .i64 root))
        have N10 := Lib.hid (N9.out.setCell (p := ⟨H, 1, none⟩) (show w.heap.size ≤ H by omega) (.int .i64 root))
        clear M hr N8 X8 Q8 G8 N9 X9 G9
        by_cases hk : kd = 84
        · have hkb : (kd == 84) = true := by simp [hk]
          have hkb2 : decide (kd = 84) = true := decide_eq_true hk
          go_wp2_with fail
          generalize World.setCell _ _ _ = w9 at *
          clear f0 q0
          refine (end_any r [] false w9 Q10.out).mono ?_
          rintro e w10 ⟨rfl, M⟩
          rw [if_pos ⟨rfl, rfl⟩]
          have N11 := Lib.hid (N10.out.trans (M.to_below N10.out.size))
          have X11 := Lib.hid (X10.out.mod M (fun q => q))
          have G11 := Lib.hid (G10.out.mod M (fun q => q))
          have b0 := G11.out.at_ (i := 0) _ rfl
          have b1 := G11.out.at_ (i := 1) _ rfl
          have b2 := G11.out.at_ (i := 2) _ rfl
          have b3 := G11.out.at_ (i := 3) _ rfl
          have b4 := G11.out.at_ (i := 4) _ rfl
          clear M N10 X10 G10 Q10
          go_wp2_with fail
          refine (goodh_any ⟨gen, root, s0, s1, ch⟩ w10).mono ?_
          rintro e w11 ⟨rfl, M⟩
          have NX := Lib.hid (N11.out.trans (M.to_below N11.out.size))
          have X12 := Lib.hid (X11.out.mod M (fun q => q))
          have G12 := Lib.hid (G11.out.mod M (fun q => q))
          clear M N11 X11 G11 b0 b1 b2 b3 b4
          cases hgd : goodH ⟨gen, root, s0, s1, ch⟩ with
          | false =>
            rw [if_neg (by rw [hgd]; simp)] at HR
            dsimp only [zeroH, hdV, hdC] at HR
            have d0 := X12.out.free 0
            have d1 := X12.out.free 1
            have d2 := X12.out.free 2
            have d3 := X12.out.free 3
            have d4 := X12.out.free 4
            have b0 := X12.out.at_ (i := 0) _ rfl
            have b1 := X12.out.at_ (i := 1) _ rfl
            have b2 := X12.out.at_ (i := 2) _ rfl
            have b3 := X12.out.at_ (i := 3) _ rfl
            have b4 := X12.out.at_ (i := 4) _ rfl
            have Y := Lib.hid (five_set X12.out (.int .u64 0) (.int .i64 0) (.int .i64 0) (.int .i64 0) (.int .i64 0))
            have N := Lib.hid (Same.of_below (NX.out.trans (modR_below (five_mod _ w.heap.size (.int .u64 0) (.int .i64 0) (.int .i64 0) (.int .i64 0) (.int .i64 0)) NX.out.size (Nat.le_refl _))))
            clear X12 NX
            go_wp2_with fail
            generalize World.setCell _ _ _ = w20 at *
            have c0 := Y.out.at_ (i := 0) _ rfl
            have c1 := Y.out.at_ (i := 1) _ rfl
            have c2 := Y.out.at_ (i := 2) _ rfl
            have c3 := Y.out.at_ (i := 3) _ rfl
            have c4 := Y.out.at_ (i := 4) _ rfl
            exact bodyPost_ret (v := .tuple #[.agg #[.int .u64 0, .int .i64 0, .int .i64 0, .int .i64 0, .int .i64 0], .int .i64 3]) (by simp [results, Tryz.results55, go_sem, c0, c1, c2, c3, c4]) rfl (HR.out _ _ ⟨rfl, N.out⟩)
          | true =>
            rw [if_pos ⟨hk, hgd⟩] at HR
            dsimp only [hdV, hdC] at HR
            have b0' := G12.out.at_ (i := 0) _ rfl
            have b1' := G12.out.at_ (i := 1) _ rfl
            have b2' := G12.out.at_ (i := 2) _ rfl
            have b3' := G12.out.at_ (i := 3) _ rfl
            have b4' := G12.out.at_ (i := 4) _ rfl
            have d0 := X12.out.free 0
            have d1 := X12.out.free 1
            have d2 := X12.out.free 2
            have d3 := X12.out.free 3
            have d4 := X12.out.free 4
            have b0 := X12.out.at_ (i := 0) _ rfl
            have b1 := X12.out.at_ (i := 1) _ rfl
            have b2 := X12.out.at_ (i := 2) _ rfl
            have b3 := X12.out.at_ (i := 3) _ rfl
            have b4 := X12.out.at_ (i := 4) _ rfl
            have Y := Lib.hid (five_set X12.out (.int .u64 gen) (.int .i64 root) (.int .i64 s0) (.int .i64 s1) (.int .i64 ch))
            have N := Lib.hid (Same.of_below (NX.out.trans (modR_below (five_mod _ w.heap.size (.int .u64 gen) (.int .i64 root) (.int .i64 s0) (.int .i64 s1) (.int .i64 ch)) NX.out.size (Nat.le_refl _))))
            clear X12 NX
            go_wp2_with fail
            generalize World.setCell _ _ _ = w20 at *
            have c0 := Y.out.at_ (i := 0) _ rfl
            have c1 := Y.out.at_ (i := 1) _ rfl
            have c2 := Y.out.at_ (i := 2) _ rfl
            have c3 := Y.out.at_ (i := 3) _ rfl
            have c4 := Y.out.at_ (i := 4) _ rfl
            exact bodyPost_ret (v := .tuple #[.agg #[.int .u64 gen, .int .i64 root, .int .i64 s0, .int .i64 s1, .int .i64 ch], .int .i64 0]) (by simp [results, Tryz.results55, go_sem, c0, c1, c2, c3, c4]) rfl (HR.out _ _ ⟨rfl, N.out⟩)
        · have hkb : (kd == 84) = false := beq_eq_false_iff_ne.2 hk
          have hkb2 : decide (kd = 84) = false := decide_eq_false hk
          rw [if_neg (fun q => hk q.1)] at HR
          dsimp only [zeroH, hdV, hdC] at HR
          have NX := N10
          clear N10 G10 Q10
          have m0 := X10.out.free 0
          have m1 := X10.out.free 1
          have m2 := X10.out.free 2
          have m3 := X10.out.free 3
          have m4 := X10.out.free 4
          have d0 := X10.out.free 0
          have d1 := X10.out.free 1
          have d2 := X10.out.free 2
          have d3 := X10.out.free 3
          have d4 := X10.out.free 4
          have b0 := X10.out.at_ (i := 0) _ rfl
          have b1 := X10.out.at_ (i := 1) _ rfl
          have b2 := X10.out.at_ (i := 2) _ rfl
          have b3 := X10.out.at_ (i := 3) _ rfl
          have b4 := X10.out.at_ (i := 4) _ rfl
          have Y := Lib.hid (five_set X10.out (.int .u64 0) (.int .i64 0) (.int .i64 0) (.int .i64 0) (.int .i64 0))
          have N := Lib.hid (Same.of_below (NX.out.trans (modR_below (five_mod _ w.heap.size (.int .u64 0) (.int .i64 0) (.int .i64 0) (.int .i64 0) (.int .i64 0)) NX.out.size (Nat.le_refl _))))
          clear X10 NX
          go_wp2_with fail
          generalize World.setCell _ _ _ = w20 at *
          have c0 := Y.out.at_ (i := 0) _ rfl
          have c1 := Y.out.at_ (i := 1) _ rfl
          have c2 := Y.out.at_ (i := 2) _ rfl
          have c3 := Y.out.at_ (i := 3) _ rfl
          have c4 := Y.out.at_ (i := 4) _ rfl
          exact bodyPost_ret (v := .tuple #[.agg #[.int .u64 0, .int .i64 0, .int .i64 0, .int .i64 0, .int .i64 0], .int .i64 3]) (by simp [results, Tryz.results55, go_sem, c0, c1, c2, c3, c4]) rfl (HR.out _ _ ⟨rfl, N.out⟩)
end Go.Proofs.YtjkndfenniongaaGreatDoor
