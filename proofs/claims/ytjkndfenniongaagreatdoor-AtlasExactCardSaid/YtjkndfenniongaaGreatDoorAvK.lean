import Derived.Test.YtjkndfenniongaaGreatDoorAtQ
import Derived.Test.YtjkndfenniongaaGreatDoorAuD
set_option linter.unusedSimpArgs false
set_option linter.unusedVariables false
set_option maxRecDepth 100000
/- Volumes: which can be. -/
namespace Go.Proofs.YtjkndfenniongaaGreatDoor
open Go Go.RowKit
structure Vl where
  id : Int
  sz : Int
  root : Int
  pin : Bool
  fr : Int
abbrev vlC (v : Vl) : Array Value := #[.int .i64 v.id, .int .i64 v.sz, .int .i64 v.root, .bool v.pin, .int .i64 v.fr]
abbrev vlV (v : Vl) : Value := .agg (vlC v)
def goodV (v : Vl) : Bool := decide (1 ≤ v.id) && decide (v.id ≤ 16) && decide (0 ≤ v.sz) && decide (v.sz ≤ 64) && decide (0 ≤ v.root) && decide (v.root < 512) && decide (0 ≤ v.fr) && decide (v.fr ≤ 16)
set_option maxHeartbeats 4000000 in
theorem vgood_any (v : Vl) (w : World) : Calls Tryz.prog 94 #[vlV v] w fun e w' => e = .returned (.bool (goodV v)) ∧ Same w w' := by
  refine opq fun R HR => ?_
  obtain ⟨id, sz, root, pin, fr⟩ := v
  unfold vlV vlC
  dsimp only
  have A0 := Lib.hid (show Same w (w.alloc (.cells #[.int .i64 id, .int .i64 sz, .int .i64 root, .bool pin, .int .i64 fr] 72)) from (Mod.refl _ _).alloc _)
  by_cases c0 : 1 ≤ id
  · have n0 : ¬ id < 1 := by omega
    by_cases c1 : id ≤ 16
    · have n1 : ¬ 16 < id := by omega
      by_cases c2 : 0 ≤ sz
      · have n2 : ¬ sz < 0 := by omega
        by_cases c3 : sz ≤ 64
        · have n3 : ¬ 64 < sz := by omega
          by_cases c4 : 0 ≤ root
          · have n4 : ¬ root < 0 := by omega
            by_cases c5 : root ≤ 511
            · have n5 : ¬ 512 ≤ root := by omega
              by_cases c6 : 0 ≤ fr
              · have n6 : ¬ fr < 0 := by omega
                by_cases c7 : fr ≤ 16
                · have n7 : ¬ 16 < fr := by omega
                  have hb : goodV ⟨id, sz, root, pin, fr⟩ = true := by
                    unfold goodV
                    simp
                    omega
                  rw [hb] at HR
                  go_enter Tryz.func94, Tryz.ntmps94
                  go_wp2
                  exact HR.out _ _ ⟨rfl, A0.out⟩
                · have n7 : 16 < fr := by omega
                  have hb : goodV ⟨id, sz, root, pin, fr⟩ = false := by
                    unfold goodV
                    simp
                    omega
                  rw [hb] at HR
                  go_enter Tryz.func94, Tryz.ntmps94
                  go_wp2
                  exact HR.out _ _ ⟨rfl, A0.out⟩
              · have n6 : fr < 0 := by omega
                have hb : goodV ⟨id, sz, root, pin, fr⟩ = false := by
                  unfold goodV
                  simp
                  omega
                rw [hb] at HR
                go_enter Tryz.func94, Tryz.ntmps94
                go_wp2
                exact HR.out _ _ ⟨rfl, A0.out⟩
            · have n5 : 512 ≤ root := by omega
              have hb : goodV ⟨id, sz, root, pin, fr⟩ = false := by
                unfold goodV
                simp
                omega
              rw [hb] at HR
              go_enter Tryz.func94, Tryz.ntmps94
              go_wp2
              exact HR.out _ _ ⟨rfl, A0.out⟩
          · have n4 : root < 0 := by omega
            have hb : goodV ⟨id, sz, root, pin, fr⟩ = false := by
              unfold goodV
              simp
              omega
            rw [hb] at HR
            go_enter Tryz.func94, Tryz.ntmps94
            go_wp2
            exact HR.out _ _ ⟨rfl, A0.out⟩
        · have n3 : 64 < sz := by omega
          have hb : goodV ⟨id, sz, root, pin, fr⟩ = false := by
            unfold goodV
            simp
            omega
          rw [hb] at HR
          go_enter Tryz.func94, Tryz.ntmps94
          go_wp2
          exact HR.out _ _ ⟨rfl, A0.out⟩
      · have n2 : sz < 0 := by omega
        have hb : goodV ⟨id, sz, root, pin, fr⟩ = false := by
          unfold goodV
          simp
          omega
        rw [hb] at HR
        go_enter Tryz.func94, Tryz.ntmps94
        go_wp2
        exact HR.out _ _ ⟨rfl, A0.out⟩
    · have n1 : 16 < id := by omega
      have hb : goodV ⟨id, sz, root, pin, fr⟩ = false := by
        unfold goodV
        simp
        omega
      rw [hb] at HR
      go_enter Tryz.func94, Tryz.ntmps94
      go_wp2
      exact HR.out _ _ ⟨rfl, A0.out⟩
  · have n0 : id < 1 := by omega
    have hb : goodV ⟨id, sz, root, pin, fr⟩ = false := by
      unfold goodV
      simp
      omega
    rw [hb] at HR
    go_enter Tryz.func94, Tryz.ntmps94
    go_wp2
    exact HR.out _ _ ⟨rfl, A0.out⟩
set_option maxHeartbeats 4000000 in
theorem rvgood_any (v : Vl) (w : World) : Calls Tryz.prog 68 #[vlV v] w fun e w' => e = .returned (.bool (goodV v)) ∧ Same w w' := by
  refine opq fun R HR => ?_
  obtain ⟨id, sz, root, pin, fr⟩ := v
  unfold vlV vlC
  dsimp only
  have A0 := Lib.hid (show Same w (w.alloc (.cells #[.int .i64 id, .int .i64 sz, .int .i64 root, .bool pin, .int .i64 fr] 72)) from (Mod.refl _ _).alloc _)
  by_cases c0 : 1 ≤ id
  · have n0 : ¬ id < 1 := by omega
    by_cases c1 : id ≤ 16
    · have n1 : ¬ 16 < id := by omega
      by_cases c2 : 0 ≤ sz
      · have n2 : ¬ sz < 0 := by omega
        by_cases c3 : sz ≤ 64
        · have n3 : ¬ 64 < sz := by omega
          by_cases c4 : 0 ≤ root
          · have n4 : ¬ root < 0 := by omega
            by_cases c5 : root ≤ 511
            · have n5 : ¬ 512 ≤ root := by omega
              by_cases c6 : 0 ≤ fr
              · have n6 : ¬ fr < 0 := by omega
                by_cases c7 : fr ≤ 16
                · have n7 : ¬ 16 < fr := by omega
                  have hb : goodV ⟨id, sz, root, pin, fr⟩ = true := by
                    unfold goodV
                    simp
                    omega
                  rw [hb] at HR
                  go_enter Tryz.func68, Tryz.ntmps68
                  go_wp2
                  exact HR.out _ _ ⟨rfl, A0.out⟩
                · have n7 : 16 < fr := by omega
                  have hb : goodV ⟨id, sz, root, pin, fr⟩ = false := by
                    unfold goodV
                    simp
                    omega
                  rw [hb] at HR
                  go_enter Tryz.func68, Tryz.ntmps68
                  go_wp2
                  exact HR.out _ _ ⟨rfl, A0.out⟩
              · have n6 : fr < 0 := by omega
                have hb : goodV ⟨id, sz, root, pin, fr⟩ = false := by
                  unfold goodV
                  simp
                  omega
                rw [hb] at HR
                go_enter Tryz.func68, Tryz.ntmps68
                go_wp2
                exact HR.out _ _ ⟨rfl, A0.out⟩
            · have n5 : 512 ≤ root := by omega
              have hb : goodV ⟨id, sz, root, pin, fr⟩ = false := by
                unfold goodV
                simp
                omega
              rw [hb] at HR
              go_enter Tryz.func68, Tryz.ntmps68
              go_wp2
              exact HR.out _ _ ⟨rfl, A0.out⟩
          · have n4 : root < 0 := by omega
            have hb : goodV ⟨id, sz, root, pin, fr⟩ = false := by
              unfold goodV
              simp
              omega
            rw [hb] at HR
            go_enter Tryz.func68, Tryz.ntmps68
            go_wp2
            exact HR.out _ _ ⟨rfl, A0.out⟩
        · have n3 : 64 < sz := by omega
          have hb : goodV ⟨id, sz, root, pin, fr⟩ = false := by
            unfold goodV
            simp
            omega
          rw [hb] at HR
          go_enter Tryz.func68, Tryz.ntmps68
          go_wp2
          exact HR.out _ _ ⟨rfl, A0.out⟩
      · have n2 : sz < 0 := by omega
        have hb : goodV ⟨id, sz, root, pin, fr⟩ = false := by
          unfold goodV
          simp
          omega
        rw [hb] at HR
        go_enter Tryz.func68, Tryz.ntmps68
        go_wp2
        exact HR.out _ _ ⟨rfl, A0.out⟩
    · have n1 : 16 < id := by omega
      have hb : goodV ⟨id, sz, root, pin, fr⟩ = false := by
        unfold goodV
        simp
        omega
      rw [hb] at HR
      go_enter Tryz.func68, Tryz.ntmps68
      go_wp2
      exact HR.out _ _ ⟨rfl, A0.out⟩
  · have n0 : id < 1 := by omega
    have hb : goodV ⟨id, sz, root, pin, fr⟩ = false := by
      unfold goodV
      simp
      omega
    rw [hb] at HR
    go_enter Tryz.func68, Tryz.ntmps68
    go_wp2
    exact HR.out _ _ ⟨rfl, A0.out⟩
end Go.Proofs.YtjkndfenniongaaGreatDoor
set_option maxRecDepth 100000
/- The document's pair of a volume. -/
namespace Go.Proofs.YtjkndfenniongaaGreatDoor
open Go Go.RowKit
def pairN (v : Vl) : Int := v.root + v.sz * 65536 + v.fr * 1099511627776 + (if v.pin = true then 4294967296 else 0)
theorem goodV_bounds {v : Vl} (h : goodV v = true) : (1 ≤ v.id ∧ v.id ≤ 16) ∧ (0 ≤ v.sz ∧ v.sz ≤ 64) ∧ (0 ≤ v.root ∧ v.root < 512) ∧ (0 ≤ v.fr ∧ v.fr ≤ 16) := by
  unfold goodV at h
  simp only [Bool.and_eq_true, decide_eq_true_eq] at h
  omega
set_option maxHeartbeats 2000000 in
theorem rpair_any (v : Vl) (hg : goodV v = true) (w : World) : Calls Tryz.prog 69 #[vlV v] w fun e w' => e = .returned (.agg #[.int .u64 (4294967296 + v.id), .int .u64 (pairN v)]) ∧ Same w w' := by
  refine opq fun R HR => ?_
  obtain ⟨b1, b2, b3, b4⟩ := goodV_bounds hg
  unfold pairN at HR
  obtain ⟨id, sz, root, pin, fr⟩ := v
  unfold vlV vlC
  dsimp only at *
  have w0 : IntKind.u64.wrap root = root := wraps_u64 _ (by omega) (by omega)
  have w1 : IntKind.u64.wrap sz = sz := wraps_u64 _ (by omega) (by omega)
  have w2 : IntKind.u64.wrap fr = fr := wraps_u64 _ (by omega) (by omega)
  have w3 : IntKind.u64.wrap id = id := wraps_u64 _ (by omega) (by omega)
  have w4 : IntKind.u64.wrap (sz * 65536) = sz * 65536 := wraps_u64 _ (by omega) (by omega)
  have w5 : IntKind.u64.wrap (fr * 1099511627776) = fr * 1099511627776 := wraps_u64 _ (by omega) (by omega)
  have w6 : IntKind.u64.wrap (root + sz * 65536) = root + sz * 65536 := wraps_u64 _ (by omega) (by omega)
  have w7 : IntKind.u64.wrap (root + sz * 65536 + fr * 1099511627776) = root + sz * 65536 + fr * 1099511627776 := wraps_u64 _ (by omega) (by omega)
  have w8 : IntKind.u64.wrap (root + sz * 65536 + fr * 1099511627776 + 4294967296) = root + sz * 65536 + fr * 1099511627776 + 4294967296 := wraps_u64 _ (by omega) (by omega)
  have w9 : IntKind.u64.wrap (4294967296 + id) = 4294967296 + id := wraps_u64 _ (by omega) (by omega)
  have X0 := Lib.hid (Blk.new w #[.int .i64 id, .int .i64 sz, .int .i64 root, .bool pin, .int .i64 fr] 72)
  have M0 := Lib.hid (show Same w (w.alloc (.cells #[.int .i64 id, .int .i64 sz, .int .i64 root, .bool pin, .int .i64 fr] 72)) from (Mod.refl _ _).alloc _)
  clear hg
  cases pin with
  | false =>
    go_enter Tryz.func69, Tryz.ntmps69
    go_wp2_with fail
    have b3 := Blk.new (w.alloc (.cells #[.int .i64 id, .int .i64 sz, .int .i64 root, .bool false, .int .i64 fr] 72)) #[.int .u64 (4294967296 + id), .int .u64 (root + sz * 65536 + fr * 1099511627776)] 123
    have M := M0.out.alloc (.cells #[.int .u64 (4294967296 + id), .int .u64 (root + sz * 65536 + fr * 1099511627776)] 123)
    rw [show (w.alloc (.cells #[.int .i64 id, .int .i64 sz, .int .i64 root, .bool false, .int .i64 fr] 72)).heap.size = w.heap.size + 1 by simp] at b3
    generalize World.alloc _ _ = W at *
    have c0 := b3.at_ (i := 0) _ rfl
    have c1 := b3.at_ (i := 1) _ rfl
    exact bodyPost_ret (v := .agg #[.int .u64 (4294967296 + id), .int .u64 (root + sz * 65536 + fr * 1099511627776)]) (by simp [results, Tryz.results69, go_sem, c0, c1]) rfl (HR.out _ _ ⟨by simp, M⟩)
  | true =>
    go_enter Tryz.func69, Tryz.ntmps69
    go_wp2_with fail
    have b3 := Blk.new (w.alloc (.cells #[.int .i64 id, .int .i64 sz, .int .i64 root, .bool true, .int .i64 fr] 72)) #[.int .u64 (4294967296 + id), .int .u64 (root + sz * 65536 + fr * 1099511627776 + 4294967296)] 123
    have M := M0.out.alloc (.cells #[.int .u64 (4294967296 + id), .int .u64 (root + sz * 65536 + fr * 1099511627776 + 4294967296)] 123)
    rw [show (w.alloc (.cells #[.int .i64 id, .int .i64 sz, .int .i64 root, .bool true, .int .i64 fr] 72)).heap.size = w.heap.size + 1 by simp] at b3
    generalize World.alloc _ _ = W at *
    have c0 := b3.at_ (i := 0) _ rfl
    have c1 := b3.at_ (i := 1) _ rfl
    exact bodyPost_ret (v := .agg #[.int .u64 (4294967296 + id), .int .u64 (root + sz * 65536 + fr * 1099511627776 + 4294967296)]) (by simp [results, Tryz.results69, go_sem, c0, c1]) rfl (HR.out _ _ ⟨by simp, M⟩)
end Go.Proofs.YtjkndfenniongaaGreatDoor
set_option maxRecDepth 100000
/- The program's pair of a volume that can be. -/
namespace Go.Proofs.YtjkndfenniongaaGreatDoor
open Go Go.RowKit
theorem or_swap64 (x y z : Int) (hx : 0 ≤ x ∧ x < 2 ^ 64) (hy : 0 ≤ y ∧ y < 2 ^ 64) (hz : 0 ≤ z ∧ z < 2 ^ 64) : bits .or .u64 (bits .or .u64 x y) z = bits .or .u64 (bits .or .u64 x z) y := by
  obtain ⟨a, rfl⟩ := Int.eq_ofNat_of_zero_le hx.1
  obtain ⟨b, rfl⟩ := Int.eq_ofNat_of_zero_le hy.1
  obtain ⟨c, rfl⟩ := Int.eq_ofNat_of_zero_le hz.1
  have ha : a < 2 ^ 64 := by exact_mod_cast hx.2
  have hb : b < 2 ^ 64 := by exact_mod_cast hy.2
  have hc : c < 2 ^ 64 := by exact_mod_cast hz.2
  rw [(bits_nat .u64 64 (by decide) wraps_u64 a b ha hb).2, (bits_nat .u64 64 (by decide) wraps_u64 a c ha hc).2,
    (bits_nat .u64 64 (by decide) wraps_u64 (a ||| b) c (Nat.or_lt_two_pow ha hb) hc).2, (bits_nat .u64 64 (by decide) wraps_u64 (a ||| c) b (Nat.or_lt_two_pow ha hc) hb).2, Nat.or_assoc, Nat.or_comm b c, ← Nat.or_assoc]
set_option maxHeartbeats 4000000 in
theorem vpair_any (v : Vl) (hg : goodV v = true) (w : World) : Calls Tryz.prog 85 #[vlV v] w fun e w' => e = .returned (.tuple #[.agg #[.int .u64 (4294967296 + v.id), .int .u64 (pairN v)], .int .i64 0]) ∧ Same w w' := by
  refine opq fun R HR => ?_
  obtain ⟨b1, b2, b3, b4⟩ := goodV_bounds hg
  have HG := Lib.hid (fun w => vgood_any v w)
  rw [hg] at HG
  unfold pairN at HR
  obtain ⟨id, sz, root, pin, fr⟩ := v
  unfold vlV vlC at *
  dsimp only at *
  have w0 : IntKind.u64.wrap root = root := wraps_u64 _ (by omega) (by omega)
  have w1 : IntKind.u64.wrap sz = sz := wraps_u64 _ (by omega) (by omega)
  have w2 : IntKind.u64.wrap fr = fr := wraps_u64 _ (by omega) (by omega)
  have w4 : IntKind.u64.wrap (sz * 65536) = sz * 65536 := wraps_u64 _ (by omega) (by omega)
  have w5 : IntKind.u64.wrap (fr * 1099511627776) = fr * 1099511627776 := wraps_u64 _ (by omega) (by omega)
  have o1 : bits .or .u64 root (sz * 65536) = root + sz * 65536 := or_at 16 root sz (sz * 65536) 65536 (by decide) (by omega) rfl (by omega) (by decide)
  have o2 : bits .or .u64 (root + sz * 65536) (fr * 1099511627776) = root + sz * 65536 + fr * 1099511627776 := or_at 40 _ fr _ 1099511627776 (by decide) (by omega) rfl (by omega) (by decide)
  have o3 : bits .or .u64 (root + sz * 65536 + fr * 1099511627776) 4294967296 = root + sz * 65536 + fr * 1099511627776 + 4294967296 := by
    rw [← o2, or_swap64 _ _ _ (by omega) (by omega) (by omega), or_at 32 (root + sz * 65536) 1 4294967296 4294967296 (by decide) (by omega) rfl (by omega) (by decide), or_at 40 (root + sz * 65536 + 4294967296) fr (fr * 1099511627776) 1099511627776 (by decide) (by omega) rfl (by omega) (by decide), o2]
    omega
  have X0 := Lib.hid ((Blk.new w #[.int .i64 id, .int .i64 sz, .int .i64 root, .bool pin, .int .i64 fr] 72).alloc (.cells #[.int .u64 0, .int .u64 0] 123))
  have Y0 := Lib.hid (Blk.new (w.alloc (.cells #[.int .i64 id, .int .i64 sz, .int .i64 root, .bool pin, .int .i64 fr] 72)) #[.int .u64 0, .int .u64 0] 123)
  have N0 := Lib.hid (show Same w ((w.alloc (.cells #[.int .i64 id, .int .i64 sz, .int .i64 root, .bool pin, .int .i64 fr] 72)).alloc (.cells #[.int .u64 0, .int .u64 0] 123)) from ((Mod.refl _ _).alloc _).alloc _)
  rw [show (w.alloc (.cells #[.int .i64 id, .int .i64 sz, .int .i64 root, .bool pin, .int .i64 fr] 72)).heap.size = w.heap.size + 1 by simp] at Y0
  clear hg
  cases pin with
  | false =>
    go_enter Tryz.func85, Tryz.ntmps85
    go_wp2_with fail
    generalize World.alloc _ _ = W0 at *
    refine (HG.out W0).mono ?_
    rintro e w1 ⟨rfl, M⟩
    have N1 := Lib.hid (N0.out.same M)
    have X1 := X0.out.mod M (fun q => q)
    have Y1 := Y0.out.mod M (fun q => q)
    have x0 := X1.at_ (i := 0) _ rfl
    have x1 := X1.at_ (i := 1) _ rfl
    have x2 := X1.at_ (i := 2) _ rfl
    have x3 := X1.at_ (i := 3) _ rfl
    have x4 := X1.at_ (i := 4) _ rfl
    have hsz : w.heap.size + 1 < w1.heap.size := Y1.lt
    clear M X0 N0 HG
    go_wp2_with fail
    refine (key_any id (by omega) w1).mono ?_
    rintro e w2 ⟨rfl, rfl⟩
    have c0 := Y1.at_ (i := 0) _ rfl
    have c1 := Y1.at_ (i := 1) _ rfl
    have f0 := Y1.free 0
    have f1 := Y1.free 1
    have Y := Lib.hid (two_set Y1 (.int .u64 (4294967296 + id)) (.int .u64 (root + sz * 65536 + fr * 1099511627776)))
    have N := Lib.hid (Same.of_below ((Same.below N1.out).trans (modR_below (two_mod w2 (w.heap.size + 1) (.int .u64 (4294967296 + id)) (.int .u64 (root + sz * 65536 + fr * 1099511627776))) N1.out.size (Nat.le_succ _))))
    clear X1 Y1 N1 Y0
    go_wp2_with fail
    generalize World.setCell _ _ _ = w20 at *
    have b0 := Y.out.at_ (i := 0) _ rfl
    have b1 := Y.out.at_ (i := 1) _ rfl
    exact bodyPost_ret (v := .tuple #[.agg #[.int .u64 (4294967296 + id), .int .u64 (root + sz * 65536 + fr * 1099511627776)], .int .i64 0]) (by simp [results, Tryz.results85, go_sem, b0, b1]) rfl (HR.out _ _ ⟨by simp, N.out⟩)
  | true =>
    go_enter Tryz.func85, Tryz.ntmps85
    go_wp2_with fail
    generalize World.alloc _ _ = W0 at *
    refine (HG.out W0).mono ?_
    rintro e w1 ⟨rfl, M⟩
    have N1 := Lib.hid (N0.out.same M)
    have X1 := X0.out.mod M (fun q => q)
    have Y1 := Y0.out.mod M (fun q => q)
    have x0 := X1.at_ (i := 0) _ rfl
    have x1 := X1.at_ (i := 1) _ rfl
    have x2 := X1.at_ (i := 2) _ rfl
    have x3 := X1.at_ (i := 3) _ rfl
    have x4 := X1.at_ (i := 4) _ rfl
    have hsz : w.heap.size + 1 < w1.heap.size := Y1.lt
    clear M X0 N0 HG
    go_wp2_with fail
    refine (key_any id (by omega) w1).mono ?_
    rintro e w2 ⟨rfl, rfl⟩
    have c0 := Y1.at_ (i := 0) _ rfl
    have c1 := Y1.at_ (i := 1) _ rfl
    have f0 := Y1.free 0
    have f1 := Y1.free 1
    have Y := Lib.hid (two_set Y1 (.int .u64 (4294967296 + id)) (.int .u64 (root + sz * 65536 + fr * 1099511627776 + 4294967296)))
    have N := Lib.hid (Same.of_below ((Same.below N1.out).trans (modR_below (two_mod w2 (w.heap.size + 1) (.int .u64 (4294967296 + id)) (.int .u64 (root + sz * 65536 + fr * 1099511627776 + 4294967296))) N1.out.size (Nat.le_succ _))))
    clear X1 Y1 N1 Y0
    go_wp2_with fail
    generalize World.setCell _ _ _ = w20 at *
    have b0 := Y.out.at_ (i := 0) _ rfl
    have b1 := Y.out.at_ (i := 1) _ rfl
    exact bodyPost_ret (v := .tuple #[.agg #[.int .u64 (4294967296 + id), .int .u64 (root + sz * 65536 + fr * 1099511627776 + 4294967296)], .int .i64 0]) (by simp [results, Tryz.results85, go_sem, b0, b1]) rfl (HR.out _ _ ⟨by simp, N.out⟩)
end Go.Proofs.YtjkndfenniongaaGreatDoor
set_option maxRecDepth 100000
/- Two pairs compared; vols.Pair of a volume that can't be. -/
namespace Go.Proofs.YtjkndfenniongaaGreatDoor
open Go Go.RowKit
@[go_sem] theorem eq123 (a b c d : Int) (w : World) : (Op.equalIn 10000 123 (.agg #[.int .u64 a, .int .u64 b]) (.agg #[.int .u64 c, .int .u64 d])).run Tryz.prog w = .ok (a == c && b == d) w := by
  have u3 := Tryz.underlying51
  have a3 := Tryz.isAgg51
  have z3 := Tryz.sizeOf51
  rw [show (10000 : Nat) = 9999 + 1 from rfl, Op.equalIn]
  simp only [Sem.run_bind, run_underlying Tryz.underlying123, Result.andThen_ok]
  go_simp
  by_cases h1 : a = c <;> by_cases h2 : b = d <;> simp [h1, h2]
set_option maxHeartbeats 2000000 in
theorem vpair_bad (v : Vl) (hg : goodV v = false) (w : World) : Calls Tryz.prog 85 #[vlV v] w fun e w' => e = .returned (.tuple #[.agg #[.int .u64 0, .int .u64 0], .int .i64 1]) ∧ Same w w' := by
  refine opq fun R HR => ?_
  have HG := Lib.hid (fun w => vgood_any v w)
  rw [hg] at HG
  obtain ⟨id, sz, root, pin, fr⟩ := v
  unfold vlV vlC at *
  dsimp only at *
  have Y0 := Lib.hid (Blk.new (w.alloc (.cells #[.int .i64 id, .int .i64 sz, .int .i64 root, .bool pin, .int .i64 fr] 72)) #[.int .u64 0, .int .u64 0] 123)
  have X0 := Lib.hid ((Blk.new w #[.int .i64 id, .int .i64 sz, .int .i64 root, .bool pin, .int .i64 fr] 72).alloc (.cells #[.int .u64 0, .int .u64 0] 123))
  have N0 := Lib.hid (show Same w ((w.alloc (.cells #[.int .i64 id, .int .i64 sz, .int .i64 root, .bool pin, .int .i64 fr] 72)).alloc (.cells #[.int .u64 0, .int .u64 0] 123)) from ((Mod.refl _ _).alloc _).alloc _)
  rw [show (w.alloc (.cells #[.int .i64 id, .int .i64 sz, .int .i64 root, .bool pin, .int .i64 fr] 72)).heap.size = w.heap.size + 1 by simp] at Y0
  clear hg
  go_enter Tryz.func85, Tryz.ntmps85
  go_wp2_with fail
  generalize World.alloc _ _ = W0 at *
  refine (HG.out W0).mono ?_
  rintro e w1 ⟨rfl, M⟩
  have N1 := Lib.hid (N0.out.same M)
  have Y1 := Y0.out.mod M (fun q => q)
  have c0 := Y1.at_ (i := 0) _ rfl
  have c1 := Y1.at_ (i := 1) _ rfl
  have f0 := Y1.free 0
  have f1 := Y1.free 1
  have Y := Lib.hid (two_set Y1 (.int .u64 0) (.int .u64 0))
  have N := Lib.hid (Same.of_below ((Same.below N1.out).trans (modR_below (two_mod w1 (w.heap.size + 1) (.int .u64 0) (.int .u64 0)) N1.out.size (Nat.le_succ _))))
  clear M N1 Y1 Y0 X0 N0 HG
  go_wp2_with fail
  generalize World.setCell _ _ _ = w20 at *
  have b0 := Y.out.at_ (i := 0) _ rfl
  have b1 := Y.out.at_ (i := 1) _ rfl
  exact bodyPost_ret (v := .tuple #[.agg #[.int .u64 0, .int .u64 0], .int .i64 1]) (by simp [results, Tryz.results85, go_sem, b0, b1]) rfl (HR.out _ _ ⟨rfl, N.out⟩)
end Go.Proofs.YtjkndfenniongaaGreatDoor
set_option maxRecDepth 100000
/- vols.Read. -/
namespace Go.Proofs.YtjkndfenniongaaGreatDoor
open Go Go.RowKit
def volOf (p : Int × Int) : Vl := ⟨p.1 % 4294967296, p.2 / 65536 % 65536, p.2 % 65536, decide (p.2 / 4294967296 % 256 = 1), p.2 / 1099511627776⟩
def readV (p : Int × Int) : Option Vl := if goodV (volOf p) = true ∧ 4294967296 + (volOf p).id = p.1 ∧ pairN (volOf p) = p.2 then some (volOf p) else none
theorem and_mask (x : Int) (k : Nat) (hk : k ≤ 32) (m : Int) (hm : m = 2 ^ k - 1) (hx : 0 ≤ x ∧ x < 2 ^ 64) : bits .and .u64 x m = x % 2 ^ k := by
  obtain ⟨a, rfl⟩ := Int.eq_ofNat_of_zero_le hx.1
  have ha : a < 2 ^ 64 := by exact_mod_cast hx.2
  have h2 : (2 : Nat) ^ k ≤ 2 ^ 32 := Nat.pow_le_pow_right (by omega) hk
  have hp : 0 < 2 ^ k := Nat.two_pow_pos k
  have e : (((2 : Nat) ^ k : Nat) : Int) = (2 : Int) ^ k := by simp
  have hm2 : m = ((2 ^ k - 1 : Nat) : Int) := by rw [hm, ← e]; omega
  subst hm2
  rw [(bits_nat .u64 64 (by decide) wraps_u64 a (2 ^ k - 1) ha (by omega)).1, Nat.and_two_pow_sub_one_eq_mod]
  simp
set_option maxHeartbeats 4000000 in
theorem vread_any (p : Int × Int) (h0 : U64 p.1) (h1 : U64 p.2) (w : World) : Calls Tryz.prog 59 #[.agg #[.int .u64 p.1, .int .u64 p.2]] w fun e w' => e = .returned (match readV p with | none => .tuple #[.agg #[.int .i64 0, .int .i64 0, .int .i64 0, .bool false, .int .i64 0], .bool false] | some v => .tuple #[vlV v, .bool true]) ∧ Same w w' := by
  refine opq fun R HR => ?_
  obtain ⟨ky, vl⟩ := p
  unfold U64 at h0 h1
  dsimp only at h0 h1 ⊢
  have m1 := and_mask ky 32 (by omega) 4294967295 (by decide) (by omega)
  have m2 := and_mask (vl / 65536) 16 (by omega) 65535 (by decide) (by omega)
  have m3 := and_mask vl 16 (by omega) 65535 (by decide) (by omega)
  have m4 := and_mask (vl / 4294967296) 8 (by omega) 255 (by decide) (by omega)
  go_enter Tryz.func59, Tryz.ntmps59
  go_wp2_with fail
  have X2 := Lib.hid ((Blk.new (w.alloc (.cells #[.int .u64 ky, .int .u64 vl] 123)) #[.int .i64 0, .int .i64 0, .int .i64 0, .bool false, .int .i64 0] 72).alloc (.cells #[.int .i64 (ky % 4294967296), .int .i64 (vl / 65536 % 65536), .int .i64 (vl % 65536), .bool (vl / 4294967296 % 256 == 1), .int .i64 (vl / 1099511627776)] 72))
  have V2 := Lib.hid (Blk.new ((w.alloc (.cells #[.int .u64 ky, .int .u64 vl] 123)).alloc (.cells #[.int .i64 0, .int .i64 0, .int .i64 0, .bool false, .int .i64 0] 72)) #[.int .i64 (ky % 4294967296), .int .i64 (vl / 65536 % 65536), .int .i64 (vl % 65536), .bool (vl / 4294967296 % 256 == 1), .int .i64 (vl / 1099511627776)] 72)
  have P2 := Lib.hid (((Blk.new w #[.int .u64 ky, .int .u64 vl] 123).alloc (.cells #[.int .i64 0, .int .i64 0, .int .i64 0, .bool false, .int .i64 0] 72)).alloc (.cells #[.int .i64 (ky % 4294967296), .int .i64 (vl / 65536 % 65536), .int .i64 (vl % 65536), .bool (vl / 4294967296 % 256 == 1), .int .i64 (vl / 1099511627776)] 72))
  have N2 := Lib.hid (show Same w (((w.alloc (.cells #[.int .u64 ky, .int .u64 vl] 123)).alloc (.cells #[.int .i64 0, .int .i64 0, .int .i64 0, .bool false, .int .i64 0] 72)).alloc (.cells #[.int .i64 (ky % 4294967296), .int .i64 (vl / 65536 % 65536), .int .i64 (vl % 65536), .bool (vl / 4294967296 % 256 == 1), .int .i64 (vl / 1099511627776)] 72)) from (((Mod.refl _ _).alloc _).alloc _).alloc _)
  rw [show (w.alloc (.cells #[.int .u64 ky, .int .u64 vl] 123)).heap.size = w.heap.size + 1 by simp] at X2
  rw [show ((w.alloc (.cells #[.int .u64 ky, .int .u64 vl] 123)).alloc (.cells #[.int .i64 0, .int .i64 0, .int .i64 0, .bool false, .int .i64 0] 72)).heap.size = w.heap.size + 1 + 1 by simp] at V2
  generalize World.alloc _ _ = W2 at *
  unfold readV at HR
  cases hg : goodV (volOf (ky, vl)) with
  | false =>
    rw [if_neg (by rw [hg]; simp)] at HR
    dsimp only at HR
    refine (vpair_bad (volOf (ky, vl)) hg W2).mono ?_
    rintro e w3 ⟨rfl, M⟩
    have N3 := N2.out.same M
    have N4 := Lib.hid N3
    have X3 := X2.out.mod M (fun q => q)
    have V3 := V2.out.mod M (fun q => q)
    have P3 := P2.out.mod M (fun q => q)
    have X4 := Lib.hid X3
    have V4 := Lib.hid (V3.alloc (.cells #[.int .u64 0, .int .u64 0] 123))
    have P4 := Lib.hid (P3.alloc (.cells #[.int .u64 0, .int .u64 0] 123))
    have x0 := X3.at_ (i := 0) _ rfl
    have x1 := X3.at_ (i := 1) _ rfl
    have x2 := X3.at_ (i := 2) _ rfl
    have x3 := X3.at_ (i := 3) _ rfl
    have x4 := X3.at_ (i := 4) _ rfl
    have y0 := X3.free 0
    have y1 := X3.free 1
    have y2 := X3.free 2
    have y3 := X3.free 3
    have y4 := X3.free 4
    have v0 := V3.at_ (i := 0) _ rfl
    have v1 := V3.at_ (i := 1) _ rfl
    have v2 := V3.at_ (i := 2) _ rfl
    have v3 := V3.at_ (i := 3) _ rfl
    have v4 := V3.at_ (i := 4) _ rfl
    have p0 := P3.at_ (i := 0) _ rfl
    have p1 := P3.at_ (i := 1) _ rfl
    have hs1 : w.heap.size + 1 < w3.heap.size := X3.lt
    have hs2 : w.heap.size + 1 + 1 < w3.heap.size := V3.lt
    clear M N3 X3 V3 P3 X2 V2 P2 N2
    have Y := Lib.hid ((five_set X4.out (.int .i64 0) (.int .i64 0) (.int .i64 0) (.bool false) (.int .i64 0)).alloc (.cells #[.int .u64 0, .int .u64 0] 123))
    have N := Lib.hid ((Same.of_below ((Same.below N4.out).trans (modR_below (five_mod _ (w.heap.size + 1) (.int .i64 0) (.int .i64 0) (.int .i64 0) (.bool false) (.int .i64 0)) N4.out.size (Nat.le_succ _)))).alloc (.cells #[.int .u64 0, .int .u64 0] 123))
    clear X4 N4 V4 P4
    go_wp2_with fail
    generalize World.alloc _ _ = w20 at *
    have b0 := Y.out.at_ (i := 0) _ rfl
    have b1 := Y.out.at_ (i := 1) _ rfl
    have b2 := Y.out.at_ (i := 2) _ rfl
    have b3 := Y.out.at_ (i := 3) _ rfl
    have b4 := Y.out.at_ (i := 4) _ rfl
    exact bodyPost_ret (v := .tuple #[.agg #[.int .i64 0, .int .i64 0, .int .i64 0, .bool false, .int .i64 0], .bool false]) (by simp [results, Tryz.results59, go_sem, b0, b1, b2, b3, b4]) rfl (HR.out _ _ ⟨rfl, N.out⟩)
  | true =>
    refine (vpair_any (volOf (ky, vl)) hg W2).mono ?_
    rintro e w3 ⟨rfl, M⟩
    obtain ⟨pk, hpk⟩ : ∃ z, 4294967296 + (volOf (ky, vl)).id = z := ⟨_, rfl⟩
    obtain ⟨pv, hpv⟩ : ∃ z, pairN (volOf (ky, vl)) = z := ⟨_, rfl⟩
    rw [hpk, hpv] at HR ⊢
    clear hpk hpv
    have N3 := N2.out.same M
    have N4 := Lib.hid N3
    have X3 := X2.out.mod M (fun q => q)
    have V3 := V2.out.mod M (fun q => q)
    have P3 := P2.out.mod M (fun q => q)
    have X4 := Lib.hid X3
    have V4 := Lib.hid (V3.alloc (.cells #[.int .u64 pk, .int .u64 pv] 123))
    have P4 := Lib.hid (P3.alloc (.cells #[.int .u64 pk, .int .u64 pv] 123))
    have x0 := X3.at_ (i := 0) _ rfl
    have x1 := X3.at_ (i := 1) _ rfl
    have x2 := X3.at_ (i := 2) _ rfl
    have x3 := X3.at_ (i := 3) _ rfl
    have x4 := X3.at_ (i := 4) _ rfl
    have y0 := X3.free 0
    have y1 := X3.free 1
    have y2 := X3.free 2
    have y3 := X3.free 3
    have y4 := X3.free 4
    have v0 := V3.at_ (i := 0) _ rfl
    have v1 := V3.at_ (i := 1) _ rfl
    have v2 := V3.at_ (i := 2) _ rfl
    have v3 := V3.at_ (i := 3) _ rfl
    have v4 := V3.at_ (i := 4) _ rfl
    have p0 := P3.at_ (i := 0) _ rfl
    have p1 := P3.at_ (i := 1) _ rfl
    have q0 := P4.out.at_ (i := 0) _ rfl
    have q1 := P4.out.at_ (i := 1) _ rfl
    have hs0 : w.heap.size < w3.heap.size := P3.lt
    have hs1 : w.heap.size + 1 < w3.heap.size := X3.lt
    have hs2 : w.heap.size + 1 + 1 < w3.heap.size := V3.lt
    clear M N3 X3 V3 P3 X2 V2 P2 N2
    by_cases h2 : pk = ky
    · by_cases h3 : pv = vl
      · rw [if_pos ⟨hg, h2, h3⟩] at HR
        dsimp only [vlV, vlC, volOf] at HR
        have g2 : (pk == ky) = true := by simp [h2]
        have g3 : (pv == vl) = true := by simp [h3]
        subst h2 h3
        have Y := Lib.hid ((five_set X4.out (.int .i64 (pk % 4294967296)) (.int .i64 (pv / 65536 % 65536)) (.int .i64 (pv % 65536)) (.bool (pv / 4294967296 % 256 == 1)) (.int .i64 (pv / 1099511627776))).alloc (.cells #[.int .u64 pk, .int .u64 pv] 123))
        have N := Lib.hid ((Same.of_below ((Same.below N4.out).trans (modR_below (five_mod _ (w.heap.size + 1) (.int .i64 (pk % 4294967296)) (.int .i64 (pv / 65536 % 65536)) (.int .i64 (pv % 65536)) (.bool (pv / 4294967296 % 256 == 1)) (.int .i64 (pv / 1099511627776))) N4.out.size (Nat.le_succ _)))).alloc (.cells #[.int .u64 pk, .int .u64 pv] 123))
        clear X4 N4 V4 P4
        go_wp2_with fail
        generalize World.alloc _ _ = w20 at *
        have b0 := Y.out.at_ (i := 0) _ rfl
        have b1 := Y.out.at_ (i := 1) _ rfl
        have b2 := Y.out.at_ (i := 2) _ rfl
        have b3 := Y.out.at_ (i := 3) _ rfl
        have b4 := Y.out.at_ (i := 4) _ rfl
        exact bodyPost_ret (v := .tuple #[.agg #[.int .i64 (pk % 4294967296), .int .i64 (pv / 65536 % 65536), .int .i64 (pv % 65536), .bool (pv / 4294967296 % 256 == 1), .int .i64 (pv / 1099511627776)], .bool true]) (by simp [results, Tryz.results59, go_sem, b0, b1, b2, b3, b4]) rfl (HR.out _ _ ⟨rfl, N.out⟩)
      · rw [if_neg (fun q => h3 q.2.2)] at HR
        dsimp only at HR
        have g3 : (pv == vl) = false := beq_eq_false_iff_ne.2 h3
        have g2 : (pk == pk) = true := by simp
        subst h2
        clear h3
        have Y := Lib.hid ((five_set X4.out (.int .i64 0) (.int .i64 0) (.int .i64 0) (.bool false) (.int .i64 0)).alloc (.cells #[.int .u64 pk, .int .u64 pv] 123))
        have N := Lib.hid ((Same.of_below ((Same.below N4.out).trans (modR_below (five_mod _ (w.heap.size + 1) (.int .i64 0) (.int .i64 0) (.int .i64 0) (.bool false) (.int .i64 0)) N4.out.size (Nat.le_succ _)))).alloc (.cells #[.int .u64 pk, .int .u64 pv] 123))
        clear X4 N4 V4 P4
        go_wp2_with fail
        generalize World.alloc _ _ = w20 at *
        have b0 := Y.out.at_ (i := 0) _ rfl
        have b1 := Y.out.at_ (i := 1) _ rfl
        have b2 := Y.out.at_ (i := 2) _ rfl
        have b3 := Y.out.at_ (i := 3) _ rfl
        have b4 := Y.out.at_ (i := 4) _ rfl
        exact bodyPost_ret (v := .tuple #[.agg #[.int .i64 0, .int .i64 0, .int .i64 0, .bool false, .int .i64 0], .bool false]) (by simp [results, Tryz.results59, go_sem, b0, b1, b2, b3, b4]) rfl (HR.out _ _ ⟨rfl, N.out⟩)
    · rw [if_neg (fun q => h2 q.2.1)] at HR
      dsimp only at HR
      have g2 : (pk == ky) = false := beq_eq_false_iff_ne.2 h2
      have Y := Lib.hid ((five_set X4.out (.int .i64 0) (.int .i64 0) (.int .i64 0) (.bool false) (.int .i64 0)).alloc (.cells #[.int .u64 pk, .int .u64 pv] 123))
      have N := Lib.hid ((Same.of_below ((Same.below N4.out).trans (modR_below (five_mod _ (w.heap.size + 1) (.int .i64 0) (.int .i64 0) (.int .i64 0) (.bool false) (.int .i64 0)) N4.out.size (Nat.le_succ _)))).alloc (.cells #[.int .u64 pk, .int .u64 pv] 123))
      clear X4 N4 V4 P4
      go_wp2_with fail
      generalize World.alloc _ _ = w20 at *
      have b0 := Y.out.at_ (i := 0) _ rfl
      have b1 := Y.out.at_ (i := 1) _ rfl
      have b2 := Y.out.at_ (i := 2) _ rfl
      have b3 := Y.out.at_ (i := 3) _ rfl
      have b4 := Y.out.at_ (i := 4) _ rfl
      exact bodyPost_ret (v := .tuple #[.agg #[.int .i64 0, .int .i64 0, .int .i64 0, .bool false, .int .i64 0], .bool false]) (by simp [results, Tryz.results59, go_sem, b0, b1, b2, b3, b4]) rfl (HR.out _ _ ⟨rfl, N.out⟩)
end Go.Proofs.YtjkndfenniongaaGreatDoor
