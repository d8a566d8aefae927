import Derived.Test.YthkpmmkddgjhmaaMillP
set_option linter.unusedSimpArgs false
set_option linter.unusedVariables false
namespace Go.Proofs.Ythkpmmkddgjhmaa
open Go Go.RowKit
theorem RowAt.keep {w w' : World} {a : Option Addr} {vs : List Value} (h : RowAt w a vs) (M : Same w w') : RowAt w' a vs := by
  intro q
  obtain ⟨b, o, ha, hb, hc⟩ := h q
  exact ⟨b, o, ha, Nat.lt_of_lt_of_le hb M.size, fun i v hv => (M.cell hb (fun q => q) _).trans (hc i v hv)⟩
set_option maxRecDepth 10000 in
set_option maxHeartbeats 4000000 in
theorem same_of (kk : Int) (ns : List Int) (ts : List ByteArray) (a1 a2 a3 a4 : Option Addr) (c1 c2 c3 c4 : Nat) (w : World) (hl1 : ns.length ≤ 1000) (hl2 : ts.length ≤ 1000)
    (h1 : RowAt w a1 (ns.map (Value.int .i64))) (h2 : RowAt w a2 (ts.map Value.string)) (h3 : RowAt w a3 (ns.map (Value.int .i64))) (h4 : RowAt w a4 (ts.map Value.string)) :
    Calls Try.prog 10 #[.agg #[.int .i64 kk, .slice a1 ns.length c1, .slice a2 ts.length c2], .agg #[.int .i64 kk, .slice a3 ns.length c3, .slice a4 ts.length c4]] w fun e w' => e = .returned (.bool true) ∧ Same w w' := by
  refine opq fun R HR => ?_
  have H1 := Lib.hid h1
  have H2 := Lib.hid h2
  have H3 := Lib.hid h3
  have H4 := Lib.hid h4
  obtain ⟨n, hn⟩ : ∃ n, ns.length = n := ⟨_, rfl⟩
  obtain ⟨m, hm⟩ : ∃ m, ts.length = m := ⟨_, rfl⟩
  rw [hn] at hl1 ⊢
  rw [hm] at hl2 ⊢
  have HN := Lib.hid hn
  have HM := Lib.hid hm
  clear h1 h2 h3 h4 hn hm
  go_enter Try.func10, Try.ntmps10
  go_wp2_with fail
  have BA := Lib.hid ((Blk.new w #[.int .i64 kk, .slice a1 n c1, .slice a2 m c2] 45).alloc (.cells #[.int .i64 kk, .slice a3 n c3, .slice a4 m c4] 45))
  have BB := Lib.hid (Blk.new (w.alloc (.cells #[.int .i64 kk, .slice a1 n c1, .slice a2 m c2] 45)) #[.int .i64 kk, .slice a3 n c3, .slice a4 m c4] 45)
  have hz : (w.alloc (.cells #[.int .i64 kk, .slice a1 n c1, .slice a2 m c2] 45)).heap.size = w.heap.size + 1 := by simp
  rw [hz] at BB
  have M := Lib.hid (((Mod.refl (fun _ => False) w).alloc (.cells #[.int .i64 kk, .slice a1 n c1, .slice a2 m c2] 45)).alloc (.cells #[.int .i64 kk, .slice a3 n c3, .slice a4 m c4] 45))
  clear hz
  generalize (w.alloc _).alloc _ = W at *
  generalize w.heap.size = Z at *
  go_loopw [5] (fun i wr => ∃ k : Nat, k ≤ n ∧ i = .int .i64 k ∧ Same W wr) (fun i _ => n - (intOf i).toNat)
  case atStart => exact ⟨0, by omega, rfl, Mod.refl _ _⟩
  case round =>
    obtain ⟨k, hk, rfl, MM⟩ := hrel
    have ha0 := (BA.out.mod MM (fun q => q)).at_ (i := 1) (.slice a1 n c1) rfl
    have hb0 := (BB.out.mod MM (fun q => q)).at_ (i := 1) (.slice a3 n c3) rfl
    have J := Lib.hid MM
    by_cases hlt : k < n
    · have hkL : k < ns.length := by rw [HN.out]; exact hlt
      obtain ⟨x, hx⟩ : ∃ x, ns[k]? = some x := ⟨_, List.getElem?_eq_getElem hkL⟩
      have hxm : (ns.map (Value.int .i64))[k]? = some (Value.int .i64 x) := by rw [List.getElem?_map, hx]; rfl
      obtain ⟨b1, o1, rfl, hb1, hc1⟩ := RowAt.keep (RowAt.keep H1.out M.out) MM (by rw [List.length_map]; omega)
      obtain ⟨b3, o3, rfl, hb3, hc3⟩ := RowAt.keep (RowAt.keep H3.out M.out) MM (by rw [List.length_map]; omega)
      have e1 := hc1 k _ hxm
      have e3 := hc3 k _ hxm
      clear hc1 hc3 hxm hx hkL MM
      go_wp2_with fail
      go_big_quiet (fail)
      go_wp2
      go_roundw
      case rel => exact ⟨k + 1, by omega, by go_num, J.out.drewN _⟩
      case measure => simp [intOf]; omega
    · obtain rfl : k = n := by omega
      have M5 := Lib.hid (M.out.trans MM)
      have J := Lib.hid MM
      clear MM
      go_wp2_with fail
      go_loopw [6] (fun i wz => ∃ q : Nat, q ≤ m ∧ i = .int .i64 q ∧ Same W wz) (fun i _ => m - (intOf i).toNat)
      case atStart => exact ⟨0, by omega, rfl, J.out⟩
      case round =>
        obtain ⟨q, hq, rfl, MM⟩ := hrel
        have ha0 := (BA.out.mod MM (fun q => q)).at_ (i := 2) (.slice a2 m c2) rfl
        have hb0 := (BB.out.mod MM (fun q => q)).at_ (i := 2) (.slice a4 m c4) rfl
        have J := Lib.hid MM
        by_cases hlt : q < m
        · have hkL : q < ts.length := by rw [HM.out]; exact hlt
          obtain ⟨x, hx⟩ : ∃ x, ts[q]? = some x := ⟨_, List.getElem?_eq_getElem hkL⟩
          have hxm : (ts.map Value.string)[q]? = some (Value.string x) := by rw [List.getElem?_map, hx]; rfl
          obtain ⟨b1, o1, rfl, hb1, hc1⟩ := RowAt.keep (RowAt.keep H2.out M.out) MM (by rw [List.length_map]; omega)
          obtain ⟨b3, o3, rfl, hb3, hc3⟩ := RowAt.keep (RowAt.keep H4.out M.out) MM (by rw [List.length_map]; omega)
          have e1 := hc1 q _ hxm
          have e3 := hc3 q _ hxm
          clear hc1 hc3 hxm hx hkL MM
          go_wp2_with fail
          go_big_quiet (fail)
          go_wp2
          go_roundw
          case rel => exact ⟨q + 1, by omega, by go_num, J.out.drewN _⟩
          case measure => simp [intOf]; omega
        · obtain rfl : q = m := by omega
          have M6 := Lib.hid (M.out.trans MM)
          clear MM
          go_wp2
          exact HR.out _ _ ⟨rfl, M6.out⟩
end Go.Proofs.Ythkpmmkddgjhmaa
