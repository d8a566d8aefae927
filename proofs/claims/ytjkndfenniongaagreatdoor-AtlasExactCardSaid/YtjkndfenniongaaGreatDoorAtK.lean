import Derived.Test.YtjkndfenniongaaGreatDoorAtJ
set_option linter.unusedSimpArgs false
set_option linter.unusedVariables false
set_option maxRecDepth 100000
/- Trees without a root. -/
namespace Go.Proofs.YtjkndfenniongaaGreatDoor
open Go Go.RowKit
theorem all0_any (p : Value) (w : World) : Calls Tryz.prog 35 #[p, .int .i64 0] w fun e w' => e = .returned (bp w.heap.size) ∧ Blk w' w.heap.size #[.slice none 0 0, .slice none 0 0, .int .i64 0] ∧ Same w w' := by
  refine opq fun R HR => ?_
  go_enter Tryz.func35, Tryz.ntmps35
  go_wp2
  exact HR.out _ _ ⟨rfl, Blk.new w _ _, (Mod.refl _ _).alloc _⟩
theorem reach0_any (p : Value) (w : World) : Calls Tryz.prog 14 #[p, .int .i64 0] w fun e w' => e = .returned (.tuple #[.slice none 0 0, .int .i64 0]) ∧ Same w w' := by
  refine opq fun R HR => ?_
  go_enter Tryz.func14, Tryz.ntmps14
  go_wp2_with fail
  refine (all0_any p w).mono ?_
  rintro e w1 ⟨rfl, hb, M⟩
  have e0 := hb.at_ (i := 0) _ rfl
  have e2 := hb.at_ (i := 2) _ rfl
  clear hb
  go_wp2
  exact HR.out _ _ ⟨rfl, M⟩
theorem idxf0_any (f : Value) (w : World) : Calls Tryz.prog 93 #[.slice none 0 0, f] w fun e w' => e = .returned (.int .i64 (-1)) ∧ w' = w := by
  refine opq fun R HR => ?_
  go_enter Tryz.func93, Tryz.ntmps93
  go_wp2_with fail
  go_loopw [8, 5] (fun vi _ wr => vi = .int .i64 0 ∧ wr = w) (fun _ _ _ => 0)
  case atStart => exact ⟨rfl, rfl⟩
  case round =>
    obtain ⟨rfl, rfl⟩ := hrel
    go_wp2
    exact HR.out _ _ ⟨rfl, rfl⟩
theorem delf0_any (f : Value) (w : World) : Calls Tryz.prog 83 #[.slice none 0 0, f] w fun e w' => e = .returned (.slice none 0 0) ∧ w' = w := by
  refine opq fun R HR => ?_
  go_enter Tryz.func83, Tryz.ntmps83
  go_wp2_with fail
  refine (idxf0_any f w).mono ?_
  rintro e w1 ⟨rfl, rfl⟩
  go_wp2
  exact HR.out _ _ ⟨rfl, rfl⟩
theorem key_any (n : Int) (h : 0 ≤ n ∧ n ≤ 4294967295) (w : World) : Calls Tryz.prog 58 #[.int .i64 n] w fun e w' => e = .returned (.int .u64 (4294967296 + n)) ∧ w' = w := by
  refine opq fun R HR => ?_
  have h1 : IntKind.u64.wrap n = n := wraps_u64 _ h.1 (by omega)
  have h2 : IntKind.u64.wrap (4294967296 + n) = 4294967296 + n := wraps_u64 _ (by omega) (by omega)
  go_enter Tryz.func58, Tryz.ntmps58
  go_wp2
  exact HR.out _ _ ⟨rfl, rfl⟩
theorem range0_any (p : Value) (a b : Int) (w : World) : Calls Tryz.prog 57 #[p, .int .i64 0, .int .u64 a, .int .u64 b] w fun e w' => e = .returned (.tuple #[.slice none 0 0, .int .i64 0]) ∧ Same w w' := by
  refine opq fun R HR => ?_
  have M0 := Lib.hid (show Same w ((w.alloc (.cells #[.int .u64 a] 51)).alloc (.cells #[.int .u64 b] 51)) from ((Mod.refl _ _).alloc _).alloc _)
  go_enter Tryz.func57, Tryz.ntmps57
  go_wp2_with fail
  generalize (w.alloc _).alloc _ = W0 at *
  refine (all0_any p W0).mono ?_
  rintro e w1 ⟨rfl, hb, M⟩
  have e1 := hb.at_ (i := 1) _ rfl
  have e2 := hb.at_ (i := 2) _ rfl
  have K1 := Lib.hid (M0.out.same M)
  clear hb M M0
  go_wp2_with fail
  refine (delf0_any _ _).mono ?_
  rintro e w2 ⟨rfl, rfl⟩
  go_wp2
  exact HR.out _ _ ⟨rfl, K1.out⟩
theorem list0_any (p : Value) (w : World) : Calls Tryz.prog 36 #[p, .int .i64 0] w fun e w' => e = .returned (.tuple #[.slice none 0 0, .int .i64 0]) ∧ Same w w' := by
  refine opq fun R HR => ?_
  go_enter Tryz.func36, Tryz.ntmps36
  go_wp2_with fail
  refine (key_any 0 (by omega) w).mono ?_
  rintro e w1 ⟨rfl, rfl⟩
  go_wp2_with fail
  refine (key_any 4294967295 (by omega) w1).mono ?_
  rintro e w2 ⟨rfl, rfl⟩
  go_wp2_with fail
  refine (range0_any p _ _ w2).mono ?_
  rintro e w3 ⟨rfl, M⟩
  go_wp2_with fail
  go_loopw [26, 8] (fun vi vo wr => vi = .int .i64 0 ∧ vo = .slice none 0 0 ∧ wr = w3) (fun _ _ _ => 0)
  case atStart => exact ⟨rfl, rfl, rfl⟩
  case round =>
    obtain ⟨rfl, rfl, rfl⟩ := hrel
    go_wp2
    exact HR.out _ _ ⟨rfl, M⟩
@[go_sem] theorem fld53 (g r a b c : Int) (w : World) : (Instr.field 53 (.agg #[.int .u64 g, .int .i64 r, .int .i64 a, .int .i64 b, .int .i64 c]) 1).run Tryz.prog w = .ok (.int .i64 r) w := by
  simp [Instr.field, run_underlying Tryz.underlying53, go_sem, part, asAgg, Tryz.sizeOf3, Tryz.isAgg3]
theorem maps0_any {B : Nat} {w : World} {s d kb fb : Nat} {h : Hd} {at_ : Int} (t : Sto B w s d kb fb h at_) (h0 : h.root = 0) (l : Value) : Calls Tryz.prog 16 #[bp s, l] w fun e w' => e = .returned (.int .i64 0) ∧ Same w w' := by
  refine opq fun R HR => ?_
  have HH := Lib.hid (shead_any t)
  obtain ⟨gen, root, s0, s1, ch⟩ := h
  dsimp only at h0
  subst h0
  unfold hdV hdC at HH
  dsimp only at HH
  clear t
  go_enter Tryz.func16, Tryz.ntmps16
  go_wp2_with fail
  refine HH.out.mono ?_
  rintro e w1 ⟨rfl, M⟩
  have K1 := Lib.hid M
  clear M
  go_wp2_with fail
  refine (list0_any _ w1).mono ?_
  rintro e w2 ⟨rfl, M⟩
  have K2 := Lib.hid (K1.out.same M)
  clear M
  go_wp2_with fail
  go_loopw [27] (fun vi wr => vi = .int .i64 0 ∧ wr = w2) (fun _ _ => 0)
  case atStart => exact ⟨rfl, rfl⟩
  case round =>
    obtain ⟨rfl, rfl⟩ := hrel
    go_wp2
    exact HR.out _ _ ⟨rfl, K2.out⟩
set_option maxHeartbeats 2000000 in
theorem fill0_any (s : Value) (a : Option Addr) (c : Nat) (L : List Pg) (hk : ∀ x ∈ L, x.k = 72 ∨ x.k = 46) (hl : L.length ≤ 100000) (w : World) (hP : Pgs w a L) : Calls Tryz.prog 17 #[s, .slice a L.length c] w fun e w' => e = .returned (.int .i64 0) ∧ Same w w' := by
  refine opq fun R HR => ?_
  have HP := Lib.hid hP
  have HK := Lib.hid hk
  obtain ⟨n, hn⟩ : ∃ n, L.length = n := ⟨_, rfl⟩
  rw [hn] at hl ⊢
  have HN := Lib.hid hn
  clear hn hP hk
  go_enter Tryz.func17, Tryz.ntmps17
  go_wp2_with fail
  go_loopw [11, 5, 6] (fun vi _ _ wr => ∃ k : Nat, k ≤ n ∧ vi = .int .i64 (k : Int) ∧ Same w wr) (fun vi _ _ _ => n - (intOf vi).toNat)
  case atStart => exact ⟨0, by omega, rfl, Mod.refl _ _⟩
  case round =>
    obtain ⟨k, hk, rfl, M⟩ := hrel
    have J := Lib.hid M
    clear M
    by_cases hlt : k < n
    · obtain ⟨b, o, rfl, hb, hc⟩ := HP.out (by rw [HN.out]; omega)
      obtain ⟨x, hx⟩ : ∃ x, L[k]? = some x := ⟨_, List.getElem?_eq_getElem (by rw [HN.out]; exact hlt)⟩
      have hxk := HK.out x (List.mem_of_getElem? hx)
      have e0 := (J.out.cell hb (fun q => q) _).trans (hc k 0 x _ hx rfl)
      rw [Nat.add_zero] at e0
      clear hc hx
      rcases hxk with q | q
      · rw [q] at e0
        go_wp2_with fail
        go_roundw
        case rel => exact ⟨k + 1, by omega, by go_num, J.out⟩
        case measure => simp [intOf]; omega
      · rw [q] at e0
        go_wp2_with fail
        go_roundw
        case rel => exact ⟨k + 1, by omega, by go_num, J.out⟩
        case measure => simp [intOf]; omega
    · obtain rfl : k = n := by omega
      go_wp2
      exact HR.out _ _ ⟨rfl, J.out⟩
end Go.Proofs.YtjkndfenniongaaGreatDoor
