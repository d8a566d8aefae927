import Derived.Test.YthkcdoneghcglaaDoorScrE
import Derived.Test.YthkcdoneghcglaaDoorScrN
set_option linter.unusedSimpArgs false
set_option linter.unusedVariables false
/- What became of each chunk, in the document. -/
namespace Go.Proofs.YthkcdoneghcglaaDoor
open Go Go.RowKit
/-- The answers up to chunk k. -/
def ktF (a b : List Sm) (k : Nat) (j : Nat) : Int := if 1 ≤ j ∧ j < k then kat a b (j : Int) else 0
theorem ktF_step (a b : List Sm) (k : Nat) (hk : 1 ≤ k) (hk2 : k < 1024) (w : World) (g : Nat) (h : RowI w g 1024 (ktF a b k)) (v : Int) (hv : kat a b (k : Int) = v) : RowI (w.setCell ⟨g, k, none⟩ (.int .i64 v)) g 1024 (ktF a b (k + 1)) := by
  refine (h.set k hk2 _).congr fun j hj => ?_
  show upd (fun i => Value.int .i64 (ktF a b k i)) k (.int .i64 v) j = .int .i64 (ktF a b (k + 1) j)
  unfold upd
  dsimp only
  unfold ktF
  by_cases e : j = k
  · subst e; rw [if_pos rfl, if_pos ⟨hk, by omega⟩, hv]
  · rw [if_neg e]
    by_cases q : 1 ≤ j ∧ j < k
    · rw [if_pos q, if_pos ⟨q.1, by omega⟩]
    · rw [if_neg q, if_neg (by omega)]
theorem ktF_same (a b : List Sm) (k : Nat) (w : World) (g : Nat) (h : RowI w g 1024 (ktF a b k)) (hv : kat a b (k : Int) = 0) : RowI w g 1024 (ktF a b (k + 1)) := by
  refine h.congr fun j hj => ?_
  unfold ktF
  by_cases e : j = k
  · subst e; rw [if_neg (by omega)]; split
    · rw [hv]
    · rfl
  · by_cases q : 1 ≤ j ∧ j < k
    · rw [if_pos q, if_pos ⟨q.1, by omega⟩]
    · rw [if_neg q, if_neg (by omega)]
/-- The same answer, its zeros written out. -/
abbrev ansZ (o : Option Sm) : Value := match o with | some x => .tuple #[smV x, .bool true] | none => .tuple #[.agg #[.int .i64 0, .int .i64 0, .int .i64 0, .int .u32 0], .bool false]
theorem ansO_Z (o : Option Sm) : ansO o = ansZ o := by cases o <;> rfl
theorem of_z (a : Option Addr) (cap : Nat) (L : List Sm) (c : Int) (w : World) (hl : L.length ≤ 1000000) (hI : Sms w a L) :
    Calls Tryd.prog 33 #[.slice a L.length cap, .int .i64 c] w fun e w' => e = .returned (ansZ (ofL L c)) ∧ Same w w' := by
  rw [← ansO_Z]; exact of_any a cap L c w hl hI
set_option maxRecDepth 10000 in
set_option maxHeartbeats 8000000 in
theorem ragainst_any (a1 a2 : Option Addr) (c1 c2 : Nat) (A B : List Sm) (w : World) (hl1 : A.length ≤ 1000) (hl2 : B.length ≤ 1000) (hI1 : Sms w a1 A) (hI2 : Sms w a2 B) :
    Calls Tryd.prog 12 #[.slice a1 A.length c1, .slice a2 B.length c2] w fun e w' => (∃ g, e = .returned (.slice (some ⟨g, 0, none⟩) 1024 1024) ∧ RowI w' g 1024 (ktF A B 1024)) ∧ Same w w' := by
  refine opq fun R HR => ?_
  obtain ⟨w0, hmk, hrow0, hM0⟩ := make1024 w
  have K0 := Lib.hid hrow0
  have KM := Lib.hid hM0
  have H1 := Lib.hid (fun (c : Int) (w' : World) (M : Same w w') => of_z a1 c1 A c w' (by omega) (hI1.same M))
  have H2 := Lib.hid (fun (c : Int) (w' : World) (M : Same w w') => of_z a2 c2 B c w' (by omega) (hI2.same M))
  have hsz0 : w.heap.size < w0.heap.size := hrow0.lt
  clear hrow0 hM0 hI1 hI2
  generalize A.length = n1 at *
  generalize B.length = n2 at *
  go_enter Tryd.func12, Tryd.ntmps12
  go_wp2_with fail
  go_loopw [6] (fun i wr => ∃ k : Nat, 1 ≤ k ∧ k ≤ 1024 ∧ i = .int .i64 k ∧ RowI wr w.heap.size 1024 (ktF A B k) ∧ Same w wr) (fun i _ => 1024 - (intOf i).toNat)
  case atStart => exact ⟨1, by omega, by omega, rfl, K0.out.congr (fun j hj => by unfold ktF; rw [if_neg (by omega)]), KM.out⟩
  case round =>
    obtain ⟨k, hk1, hk, rfl, hrow, hM⟩ := hrel
    have J1 := Lib.hid hrow
    have J2 := Lib.hid hM
    clear hrow hM
    by_cases hlt : k < 1024
    · have HK := Lib.hid (show kat A B (k : Int) = match ofL A (k : Int), ofL B (k : Int) with
        | some _, none => 1
        | none, some _ => 2
        | some x, some y => kd x y
        | none, none => 0 from rfl)
      have HO1 := Lib.hid (H1.out (k : Int))
      have HO2 := Lib.hid (H2.out (k : Int))
      generalize ofL A (k : Int) = p at *
      generalize ofL B (k : Int) = q at *
      go_wp2_with fail
      refine (HO1.out _ J2.out).mono ?_
      rintro e w2 ⟨rfl, M2⟩
      have J3 := Lib.hid (J2.out.same M2)
      have J4 := Lib.hid (J1.out.mod M2 (fun q => q))
      clear M2 HO1 J1 J2
      cases p with
      | none =>
        go_wp2_with fail
        have J5 := Lib.hid (J3.out.alloc (.cells #[.int .i64 0, .int .i64 0, .int .i64 0, .int .u32 0] 65))
        have J6 := Lib.hid (J4.out.alloc (.cells #[.int .i64 0, .int .i64 0, .int .i64 0, .int .u32 0] 65))
        have B1 := Lib.hid (Blk.new w2 #[.int .i64 0, .int .i64 0, .int .i64 0, .int .u32 0] 65)
        have hZ1 : w2.heap.size < (w2.alloc (.cells #[.int .i64 0, .int .i64 0, .int .i64 0, .int .u32 0] 65)).heap.size := by simp
        have hgz : w.heap.size < w2.heap.size := J4.out.lt
        generalize w2.alloc _ = W2 at *
        refine (HO2.out _ J5.out).mono ?_
        rintro e w3 ⟨rfl, M3⟩
        have J7 := Lib.hid (J5.out.same M3)
        have J8 := Lib.hid (J6.out.mod M3 (fun q => q))
        have B2 := Lib.hid (B1.out.mod M3 (fun q => q))
        clear M3 HO2 J5 J6 B1 J3 J4
        generalize w2.heap.size = Z1 at *
        have hc1 := B2.out.cell
        have hZ3 := B2.out.lt
        have hg3 := J8.out.lt
        have hr := J8.out.cell k hlt
        have hf := J8.out.free
        cases q with
        | none =>
          go_wp2_with fail
          go_roundw
          case rel => exact ⟨k + 1, by omega, by omega, by go_num, ktF_same A B k _ _ (J8.out.alloc _) (by rw [HK.out]), J7.out.alloc _⟩
          case measure => simp [intOf]; omega
        | some y =>
          obtain ⟨yc, yt, ys, yh⟩ := y
          go_wp2_with fail
          go_roundw
          case rel => exact ⟨k + 1, by omega, by omega, by go_num, (ktF_step A B k hk1 hlt _ _ J8.out 2 (by rw [HK.out])).alloc _, (J7.out.setCell (p := ⟨w.heap.size, k, none⟩) (fun q => by dsimp only at q; omega) _).alloc _⟩
          case measure => simp [intOf]; omega
      | some x =>
        obtain ⟨xc, xt, xs, xh⟩ := x
        go_wp2_with fail
        have J5 := Lib.hid (J3.out.alloc (.cells #[.int .i64 xc, .int .i64 xt, .int .i64 xs, .int .u32 (xh : Int)] 65))
        have J6 := Lib.hid (J4.out.alloc (.cells #[.int .i64 xc, .int .i64 xt, .int .i64 xs, .int .u32 (xh : Int)] 65))
        have B1 := Lib.hid (Blk.new w2 #[.int .i64 xc, .int .i64 xt, .int .i64 xs, .int .u32 (xh : Int)] 65)
        have hZ1 : w2.heap.size < (w2.alloc (.cells #[.int .i64 xc, .int .i64 xt, .int .i64 xs, .int .u32 (xh : Int)] 65)).heap.size := by simp
        have hgz : w.heap.size < w2.heap.size := J4.out.lt
        generalize w2.alloc _ = W2 at *
        refine (HO2.out _ J5.out).mono ?_
        rintro e w3 ⟨rfl, M3⟩
        have J7 := Lib.hid (J5.out.same M3)
        have J8 := Lib.hid (J6.out.mod M3 (fun q => q))
        have B2 := Lib.hid (B1.out.mod M3 (fun q => q))
        clear M3 HO2 J5 J6 B1 J3 J4
        generalize w2.heap.size = Z1 at *
        have hc1 := B2.out.cell
        have hZ3 := B2.out.lt
        have hg3 := J8.out.lt
        have hr := J8.out.cell k hlt
        have hf := J8.out.free
        cases q with
        | none =>
          go_wp2_with fail
          go_roundw
          case rel => exact ⟨k + 1, by omega, by omega, by go_num, (ktF_step A B k hk1 hlt _ _ J8.out 1 (by rw [HK.out])).alloc _, (J7.out.setCell (p := ⟨w.heap.size, k, none⟩) (fun q => by dsimp only at q; omega) _).alloc _⟩
          case measure => simp [intOf]; omega
        | some y =>
          obtain ⟨yc, yt, ys, yh⟩ := y
          have hkd : kd ⟨xc, xt, xs, xh⟩ ⟨yc, yt, ys, yh⟩ = if xh = yh then (if xt = yt ∧ xs = ys then 0 else 3) else 4 := rfl
          have HKD := Lib.hid hkd
          clear hkd
          by_cases hh : xh = yh
          · subst hh
            by_cases ht : xt = yt
            · subst ht
              by_cases hs : xs = ys
              · subst hs
                go_wp2_with fail
                go_roundw
                case rel => exact ⟨k + 1, by omega, by omega, by go_num, ktF_same A B k _ _ (J8.out.alloc _) (by rw [HK.out]; exact HKD.out.trans (by simp)), J7.out.alloc _⟩
                case measure => simp [intOf]; omega
              · have b1 := beqF hs
                have b2 := bneT hs
                have HS := Lib.hid hs
                clear hs
                go_wp2_with fail
                go_roundw
                case rel => exact ⟨k + 1, by omega, by omega, by go_num, (ktF_step A B k hk1 hlt _ _ J8.out 3 (by rw [HK.out]; exact HKD.out.trans (by simp [HS.out]))).alloc _, (J7.out.setCell (p := ⟨w.heap.size, k, none⟩) (fun q => by dsimp only at q; omega) _).alloc _⟩
                case measure => simp [intOf]; omega
            · have b1 := beqF ht
              have b2 := bneT ht
              have HS := Lib.hid ht
              clear ht
              go_wp2_with fail
              go_roundw
              case rel => exact ⟨k + 1, by omega, by omega, by go_num, (ktF_step A B k hk1 hlt _ _ J8.out 3 (by rw [HK.out]; exact HKD.out.trans (by simp [HS.out]))).alloc _, (J7.out.setCell (p := ⟨w.heap.size, k, none⟩) (fun q => by dsimp only at q; omega) _).alloc _⟩
              case measure => simp [intOf]; omega
          · have hz : (xh : Int) ≠ (yh : Int) := by omega
            have b1 := beqF hz
            have b2 := bneT hz
            have HS := Lib.hid hh
            clear hh hz
            go_wp2_with fail
            go_roundw
            case rel => exact ⟨k + 1, by omega, by omega, by go_num, (ktF_step A B k hk1 hlt _ _ J8.out 4 (by rw [HK.out]; exact HKD.out.trans (by simp [HS.out]))).alloc _, (J7.out.setCell (p := ⟨w.heap.size, k, none⟩) (fun q => by dsimp only at q; omega) _).alloc _⟩
            case measure => simp [intOf]; omega
    · obtain rfl : k = 1024 := by omega
      go_wp2
      exact HR.out _ _ ⟨⟨_, rfl, J1.out⟩, J2.out⟩
end Go.Proofs.YthkcdoneghcglaaDoor
