import Derived.Test.YthkpmmkddgjhmaaMillS
set_option linter.unusedSimpArgs false
set_option linter.unusedVariables false
namespace Go.Proofs.Ythkpmmkddgjhmaa
open Go Go.RowKit
theorem two_rows {w W : World} (M : Same w W) (c1 c2 : Array Value) (T1 T2 : TypeId) : RowNew w (((W.alloc (.cells c1 T1)).alloc (.cells c2 T2)).drew) (some ⟨W.heap.size, 0, none⟩) c1.toList ∧ RowNew w (((W.alloc (.cells c1 T1)).alloc (.cells c2 T2)).drew) (some ⟨W.heap.size + 1, 0, none⟩) c2.toList := by
  have h2 := Blk.new (W.alloc (.cells c1 T1)) c2 T2
  have hz : (W.alloc (.cells c1 T1)).heap.size = W.heap.size + 1 := by simp
  rw [hz] at h2
  have hm := M.size
  exact ⟨RowNew.blk ((Blk.new W c1 T1).alloc _).drew hm, RowNew.blk h2.drew (by omega)⟩
theorem one_row {w W : World} (M : Same w W) (c1 : Array Value) (T1 : TypeId) : RowNew w ((W.alloc (.cells c1 T1)).drew) (some ⟨W.heap.size, 0, none⟩) c1.toList := RowNew.blk (Blk.new W c1 T1).drew M.size
set_option maxRecDepth 10000 in
set_option maxHeartbeats 2000000 in
theorem parts86 (x0 x1 : Int) (b : ByteArray) (hb : b.size ≤ 512) (w : World) : Calls Try.prog 26 #[.iface 86 (.agg #[.int .i64 x0, .int .i64 x1, .string b])] w (PartsV w [.int .i64 x0, .int .i64 x1] [.string b]) := by
  refine opq fun R HR => ?_
  have m90 := fun W => as90_no W 86 (.agg #[.int .i64 x0, .int .i64 x1, .string b]) (by decide)
  have m92 := fun W => as92_no W 86 (.agg #[.int .i64 x0, .int .i64 x1, .string b]) (by decide)
  have m94 := fun W => as94_no W 86 (.agg #[.int .i64 x0, .int .i64 x1, .string b]) (by decide)
  have m95 := fun W => as95_no W 86 (.agg #[.int .i64 x0, .int .i64 x1, .string b]) (by decide)
  have m96 := fun W => as96_no W 86 (.agg #[.int .i64 x0, .int .i64 x1, .string b]) (by decide)
  have m97 := fun W => as97_no W 86 (.agg #[.int .i64 x0, .int .i64 x1, .string b]) (by decide)
  have m82 := fun W => as82_no W 86 (.agg #[.int .i64 x0, .int .i64 x1, .string b]) (by decide)
  have m86 := fun W => as86_yes W (.agg #[.int .i64 x0, .int .i64 x1, .string b])
  obtain ⟨n, hn⟩ : ∃ n, b.size = n := ⟨_, rfl⟩
  have hn5 : (n : Int) ≤ 512 := by omega
  go_enter Try.func26, Try.ntmps26
  go_wp2_with fail
  have B := Lib.hid (Blk.new w #[.int .i64 x0, .int .i64 x1, .string b] 86)
  have M := Lib.hid ((Mod.refl (fun _ => False) w).alloc (.cells #[.int .i64 x0, .int .i64 x1, .string b] 86))
  generalize w.alloc _ = W at *
  generalize hZ : w.heap.size = Z at *
  have HK := Lib.hid (fun (W' : World) (M : Same W W') => (B.out.mod M (fun q => q)).cell)
  have hc := B.out.cell
  go_region_held3 (fun w' => ∀ i, w'.cell? ⟨Z, i, none⟩ = #[Value.int .i64 x0, .int .i64 x1, .string b][i]?) (first | exact HK.out _ ((Mod.refl _ _).drew) | exact HK.out _ (((Mod.refl _ _).alloc _).drew) | exact HK.out _ ((((Mod.refl _ _).alloc _).alloc _).drew) | assumption) ((first | fail))
  all_goals
    go_wp2_with fail
    first
    | exact HR.out _ _ ⟨_, _, _, _, rfl, (two_rows M.out _ _ _ _).1, (two_rows M.out _ _ _ _).2, ((M.out.alloc _).alloc _).drew⟩
    | exact HR.out _ _ ⟨_, _, _, _, rfl, (two_rows M.out _ _ _ _).2, (two_rows M.out _ _ _ _).1, ((M.out.alloc _).alloc _).drew⟩
set_option maxRecDepth 10000 in
set_option maxHeartbeats 2000000 in
theorem parts88 (b0 b1 b2 : ByteArray) (h0 : b0.size = 1) (h1 : b1.size = 1) (h2 : b2.size = 1) (w : World) : Calls Try.prog 26 #[.iface 88 (.agg #[.string b0, .string b1, .string b2])] w (PartsV w [] [.string b0, .string b1, .string b2]) := by
  refine opq fun R HR => ?_
  have m90 := fun W => as90_no W 88 (.agg #[.string b0, .string b1, .string b2]) (by decide)
  have m92 := fun W => as92_no W 88 (.agg #[.string b0, .string b1, .string b2]) (by decide)
  have m94 := fun W => as94_no W 88 (.agg #[.string b0, .string b1, .string b2]) (by decide)
  have m95 := fun W => as95_no W 88 (.agg #[.string b0, .string b1, .string b2]) (by decide)
  have m96 := fun W => as96_no W 88 (.agg #[.string b0, .string b1, .string b2]) (by decide)
  have m97 := fun W => as97_no W 88 (.agg #[.string b0, .string b1, .string b2]) (by decide)
  have m82 := fun W => as82_no W 88 (.agg #[.string b0, .string b1, .string b2]) (by decide)
  have m86 := fun W => as86_no W 88 (.agg #[.string b0, .string b1, .string b2]) (by decide)
  have m83 := fun W => as83_no W 88 (.agg #[.string b0, .string b1, .string b2]) (by decide)
  have m70 := fun W => as70_no W 88 (.agg #[.string b0, .string b1, .string b2]) (by decide)
  have m74 := fun W => as74_no W 88 (.agg #[.string b0, .string b1, .string b2]) (by decide)
  have m88 := fun W => as88_yes W (.agg #[.string b0, .string b1, .string b2])
  go_enter Try.func26, Try.ntmps26
  go_wp2_with fail
  have B := Lib.hid (Blk.new w #[.string b0, .string b1, .string b2] 88)
  have M := Lib.hid ((Mod.refl (fun _ => False) w).alloc (.cells #[.string b0, .string b1, .string b2] 88))
  generalize w.alloc _ = W at *
  generalize hZ : w.heap.size = Z at *
  have HK := Lib.hid (fun (W' : World) (M : Same W W') => (B.out.mod M (fun q => q)).cell)
  have hc := B.out.cell
  go_region_held3 (fun w' => ∀ i, w'.cell? ⟨Z, i, none⟩ = #[Value.string b0, .string b1, .string b2][i]?) (first | exact HK.out _ ((Mod.refl _ _).drew) | exact HK.out _ (((Mod.refl _ _).alloc _).drew) | assumption) ((first | fail))
  all_goals
    go_wp2_with fail
    exact HR.out _ _ ⟨none, 0, _, _, rfl, RowNew.nil _ _ _, one_row M.out _ _, (M.out.alloc _).drew⟩
end Go.Proofs.Ythkpmmkddgjhmaa
