import Derived.Test.YtjkndfenniongaaGreatDoorAtC
set_option linter.unusedSimpArgs false
set_option linter.unusedVariables false
set_option maxRecDepth 10000
/- Heads as bytes. -/
namespace Go.Proofs.YtjkndfenniongaaGreatDoor
open Go Go.RowKit
def slotsB (h : Hd) : Nat → List UInt8
  | 0 => []
  | 1 => leB h.s0 2
  | _ => leB h.s0 2 ++ leB h.s1 2
def bodyB (h : Hd) : List UInt8 := leB 84 1 ++ leB h.ch 1 ++ slotsB h 2 ++ leB h.gen 4 ++ leB h.root 2
def headB (h : Hd) : List UInt8 := sealL (bodyB h)
theorem goodH_bounds {h : Hd} (hg : goodH h = true) : (1 ≤ h.s0 ∧ h.s0 ≤ 256) ∧ (1 ≤ h.s1 ∧ h.s1 ≤ 256) ∧ (1 ≤ h.gen ∧ h.gen ≤ 4294967295) ∧ (0 ≤ h.root ∧ h.root < 512) ∧ (1 ≤ h.ch ∧ h.ch ≤ 8) := by
  unfold goodH slotOk restOk at hg
  simp only [Bool.and_eq_true, decide_eq_true_eq] at hg
  omega
set_option maxHeartbeats 4000000 in
theorem headb_any (h : Hd) (w : World) : Calls Tryz.prog 28 #[hdV h] w fun e w' => e = .returned (if goodH h = true then .tuple #[strV (headB h), .int .i64 0] else .tuple #[strV [], .int .i64 1]) ∧ Same w w' := by
  refine opq fun R HR => ?_
  have HG := Lib.hid (fun w => goodh_any h w)
  have A0 := Lib.hid (show Same w (w.alloc (.cells (hdC h) 53)) from (Mod.refl _ _).alloc _)
  have B0 := Lib.hid (Blk.new w (hdC h) 53)
  cases hg : goodH h with
  | false =>
    rw [hg] at HR HG
    rw [if_neg (by decide)] at HR
    unfold strV at HR
    go_enter Tryz.func28, Tryz.ntmps28
    go_wp2_with fail
    refine (HG.out _).mono ?_
    rintro e w1 ⟨rfl, M⟩
    have K1 := Lib.hid (A0.out.same M)
    clear M
    go_wp2
    exact HR.out _ _ ⟨rfl, K1.out⟩
  | true =>
    rw [hg] at HR HG
    rw [if_pos rfl] at HR
    obtain ⟨b0, b1, b2, b3, b4⟩ := goodH_bounds hg
    unfold headB bodyB at HR
    have hss : slotsB h 2 = leB h.s0 2 ++ leB h.s1 2 := rfl
    have wr0 : IntKind.u64.wrap h.s0 = h.s0 := wraps_u64 _ (by omega) (by omega)
    have wr1 : IntKind.u64.wrap h.s1 = h.s1 := wraps_u64 _ (by omega) (by omega)
    have wr2 : IntKind.u64.wrap h.ch = h.ch := wraps_u64 _ (by omega) (by omega)
    have wr3 : IntKind.u64.wrap h.root = h.root := wraps_u64 _ (by omega) (by omega)
    clear hg
    obtain ⟨gen, root, s0, s1, ch⟩ := h
    unfold hdV hdC at *
    dsimp only at *
    go_enter Tryz.func28, Tryz.ntmps28
    go_wp2_with fail
    generalize w.alloc _ = W0 at *
    refine (HG.out _).mono ?_
    rintro e w1 ⟨rfl, M⟩
    have K1 := Lib.hid (A0.out.same M)
    have X1 := Lib.hid (B0.out.mod M (fun q => q))
    clear M A0 B0 HG
    go_wp2_with fail
    have W1 := Lib.hid (wr_new w1 w1.heap.size (Nat.le_refl _))
    have N1 := Lib.hid (Below.alloc (Below.refl w1.heap.size w1) (Nat.le_refl _) (.cells #[.pointer none, .slice none 0 0] 130))
    generalize w1.alloc _ = W2 at *
    refine (put_any w1.heap.size w1.heap.size [] 84 1 1 (by decide) _ W1.out (by unfold U64; decide) (by simp) (N1.out.size)).mono ?_
    rintro e w3 ⟨rfl, h1, h2, _⟩
    rw [List.nil_append] at h1
    have W3 := Lib.hid h1
    have N3 := Lib.hid (N1.out.trans h2)
    have f3 := (X1.out.mod (Same.of_below N3.out) (fun q => q)).at_ (i := 4) _ rfl
    clear h1 h2 W1 N1
    go_wp2_with fail
    refine (put_any w1.heap.size w1.heap.size _ ch 1 1 (by decide) _ W3.out (by unfold U64; omega) (by simp [leB_len]) (N3.out.size)).mono ?_
    rintro e w4 ⟨rfl, h1, h2, _⟩
    have W4 := Lib.hid h1
    have N4 := Lib.hid (N3.out.trans h2)
    have f2 := (X1.out.mod (Same.of_below N4.out) (fun q => q)).at_ (i := 2) _ rfl
    have f4 := (X1.out.mod (Same.of_below N4.out) (fun q => q)).at_ (i := 3) _ rfl
    clear h1 h2 W3 N3 f3
    go_wp2_with fail
    clear f2 f4
    go_loopw [17, 6] (fun vi _ wr => ∃ k : Nat, k ≤ 2 ∧ vi = .int .i64 (k : Int) ∧ WrF wr w1.heap.size w1.heap.size (Lib.byteCells (leB 84 1 ++ leB ch 1 ++ slotsB ⟨gen, root, s0, s1, ch⟩ k)) ∧ Below w1.heap.size w1 wr) (fun vi _ _ => 2 - (intOf vi).toNat)
    case atStart => exact ⟨0, by omega, rfl, by simpa [slotsB] using W4.out, N4.out⟩
    case round =>
      obtain ⟨k, hk, rfl, h1, h2⟩ := hrel
      have W5 := Lib.hid h1
      have N5 := Lib.hid h2
      clear h1 h2 W4 N4
      rcases (show k = 0 ∨ k = 1 ∨ k = 2 by omega) with rfl | rfl | rfl
      · go_wp2_with fail
        refine (put_any w1.heap.size w1.heap.size _ s0 2 2 (by decide) _ W5.out (by unfold U64; omega) (by simp [leB_len, slotsB]) (N5.out.size)).mono ?_
        rintro e w6 ⟨rfl, h1, h2, _⟩
        have W6 := Lib.hid h1
        have N6 := Lib.hid (N5.out.trans h2)
        clear h1 h2 W5 N5
        go_wp2_with fail
        go_roundw
        case rel => exact ⟨1, by omega, by first | rfl | go_num, by simpa [slotsB] using W6.out, N6.out⟩
        case measure => simp [intOf]
      · go_wp2_with fail
        refine (put_any w1.heap.size w1.heap.size _ s1 2 2 (by decide) _ W5.out (by unfold U64; omega) (by simp [leB_len, slotsB]) (N5.out.size)).mono ?_
        rintro e w6 ⟨rfl, h1, h2, _⟩
        have W6 := Lib.hid h1
        have N6 := Lib.hid (N5.out.trans h2)
        clear h1 h2 W5 N5
        go_wp2_with fail
        go_roundw
        case rel => exact ⟨2, by omega, by first | rfl | go_num, by simpa [slotsB] using W6.out, N6.out⟩
        case measure => simp [intOf]
      · have f0 := (X1.out.mod (Same.of_below N5.out) (fun q => q)).at_ (i := 0) _ rfl
        go_wp2_with fail
        refine (put_any w1.heap.size w1.heap.size _ gen 4 4 (by decide) _ W5.out (by unfold U64; omega) (by simp [leB_len, slotsB]) (N5.out.size)).mono ?_
        rintro e w6 ⟨rfl, h1, h2, _⟩
        have W6 := Lib.hid h1
        have N6 := Lib.hid (N5.out.trans h2)
        have f1 := (X1.out.mod (Same.of_below N6.out) (fun q => q)).at_ (i := 1) _ rfl
        clear h1 h2 W5 N5 f0
        go_wp2_with fail
        refine (put_any w1.heap.size w1.heap.size _ root 2 2 (by decide) _ W6.out (by unfold U64; omega) (by simp [leB_len, slotsB]) (N6.out.size)).mono ?_
        rintro e w7 ⟨rfl, h1, h2, _⟩
        have W7 := Lib.hid h1
        have N7 := Lib.hid (N6.out.trans h2)
        have hln : (leB 84 1 ++ leB ch 1 ++ slotsB ⟨gen, root, s0, s1, ch⟩ 2 ++ leB gen 4 ++ leB root 2).length = 12 := by simp [leB_len, slotsB]
        clear h1 h2 W6 N6 f1
        generalize leB 84 1 ++ leB ch 1 ++ slotsB ⟨gen, root, s0, s1, ch⟩ 2 ++ leB gen 4 ++ leB root 2 = L at *
        go_wp2_with fail
        refine (string_any w1.heap.size w1.heap.size L _ W7.out (fun q => by rw [q] at hln; cases hln)).mono ?_
        rintro e w8 ⟨rfl, h2⟩
        have N8 := Lib.hid (N7.out.trans h2)
        clear h2 W7 N7
        go_wp2_with fail
        refine (seal_any ⟨L.toArray⟩ w8 (by rw [bytes_size]; omega)).mono ?_
        rintro e w9 ⟨rfl, M⟩
        have N9 := Lib.hid (K1.out.same ((Same.of_below N8.out).same M))
        go_wp2
        exact HR.out _ _ ⟨rfl, N9.out⟩
end Go.Proofs.YtjkndfenniongaaGreatDoor
