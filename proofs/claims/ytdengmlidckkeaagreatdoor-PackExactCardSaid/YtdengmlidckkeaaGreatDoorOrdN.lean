import Derived.Test.YtdengmlidckkeaaGreatDoorOrdM
set_option linter.unusedSimpArgs false
set_option linter.unusedVariables false
namespace Go.Proofs.YtdengmlidckkeaaGreatDoor
open Go Go.RowKit
theorem BlkT.mod {S : Nat → Prop} {w w' : World} {b : Nat} {cs : Array Value} (h : BlkT w b cs) (m : Mod S w w') (hs : ¬ S b) : BlkT w' b cs :=
  { h.toBlk.mod m hs with kind := let ⟨c, T, fz, e, hT⟩ := h.kind; ⟨c, T, fz, (m.block b h.lt hs).trans e, hT⟩ }
theorem two_rows {w W : World} (M : Same w W) (c1 c2 : Array Value) (T1 T2 : TypeId) (h1 : T1 ≠ 5) (h2 : T2 ≠ 5) : RowNew w (((W.alloc (.cells c1 T1)).alloc (.cells c2 T2)).drew) (some ⟨W.heap.size, 0, none⟩) c1.toList ∧ RowNew w (((W.alloc (.cells c1 T1)).alloc (.cells c2 T2)).drew) (some ⟨W.heap.size + 1, 0, none⟩) c2.toList := by
  have k2 := BlkT.new (W.alloc (.cells c1 T1)) c2 T2 h2
  have hz : (W.alloc (.cells c1 T1)).heap.size = W.heap.size + 1 := by simp
  rw [hz] at k2
  have hm := M.size
  exact ⟨RowNew.blk ((BlkT.new W c1 T1 h1).mod (((Mod.refl (fun _ => False) _).alloc _).drew) (fun q => q)) hm, RowNew.blk (k2.mod ((Mod.refl (fun _ => False) _).drew) (fun q => q)) (by omega)⟩
theorem one_row {w W : World} (M : Same w W) (c1 : Array Value) (T1 : TypeId) (h1 : T1 ≠ 5) : RowNew w ((W.alloc (.cells c1 T1)).drew) (some ⟨W.heap.size, 0, none⟩) c1.toList := RowNew.blk ((BlkT.new W c1 T1 h1).mod ((Mod.refl (fun _ => False) _).drew) (fun q => q)) M.size
/-- What parts hands back, where the texts may be too long. -/
def PartsB (ok : Bool) (w : World) (ns ts : List Value) (e : Ending) (w' : World) : Prop := ∃ a1 c1 a2 c2, e = .returned (.tuple #[.slice a1 ns.length c1, .slice a2 ts.length c2, .bool ok]) ∧ RowNew w w' a1 ns ∧ RowNew w w' a2 ts ∧ Same w w'
theorem PartsV.b {w : World} {ns ts : List Value} {e : Ending} {w' : World} (h : PartsV w ns ts e w') : PartsB true w ns ts e w' := h
set_option maxRecDepth 10000 in
set_option maxHeartbeats 2000000 in
theorem parts104 (x0 x1 : Int) (b : ByteArray) (ok : Bool) (hok : decide (b.size ≤ 512) = ok) (w : World) : Calls Tryz.prog 37 #[.iface 66 (.agg #[.int .i64 x0, .int .i64 x1, .string b])] w (PartsB ok w [.int .i64 x0, .int .i64 x1] [.string b]) := by
  refine opq fun R HR => ?_
  have m83 := fun W => as83_no W 66 (.agg #[.int .i64 x0, .int .i64 x1, .string b]) (by decide)
  have m62 := fun W => as62_no W 66 (.agg #[.int .i64 x0, .int .i64 x1, .string b]) (by decide)
  have m98 := fun W => as98_no W 66 (.agg #[.int .i64 x0, .int .i64 x1, .string b]) (by decide)
  have m99 := fun W => as99_no W 66 (.agg #[.int .i64 x0, .int .i64 x1, .string b]) (by decide)
  have m61 := fun W => as61_no W 66 (.agg #[.int .i64 x0, .int .i64 x1, .string b]) (by decide)
  have m100 := fun W => as100_no W 66 (.agg #[.int .i64 x0, .int .i64 x1, .string b]) (by decide)
  have m102 := fun W => as102_no W 66 (.agg #[.int .i64 x0, .int .i64 x1, .string b]) (by decide)
  have m104 := fun W => as104_yes W (.agg #[.int .i64 x0, .int .i64 x1, .string b])
  obtain ⟨n, hn⟩ : ∃ n, b.size = n := ⟨_, rfl⟩
  have hn5 : decide ((n : Int) ≤ 512) = ok := by rw [← hok, hn]; exact decide_eq_decide.2 (by omega)
  clear hok
  go_enter Tryz.func37, Tryz.ntmps37
  go_wp2_with fail
  have B := Lib.hid (Blk.new w #[.int .i64 x0, .int .i64 x1, .string b] 66)
  have M := Lib.hid ((Mod.refl (fun _ => False) w).alloc (.cells #[.int .i64 x0, .int .i64 x1, .string b] 66))
  generalize w.alloc _ = W at *
  generalize hZ : w.heap.size = Z at *
  have HK := Lib.hid (fun (W' : World) (M : Same W W') => (B.out.mod M (fun q => q)).cell)
  have hc := B.out.cell
  go_region_held3 (fun w' => ∀ i, w'.cell? ⟨Z, i, none⟩ = #[Value.int .i64 x0, .int .i64 x1, .string b][i]?) (first | exact HK.out _ ((Mod.refl _ _).drew) | exact HK.out _ (((Mod.refl _ _).alloc _).drew) | exact HK.out _ ((((Mod.refl _ _).alloc _).alloc _).drew) | assumption) ((first | fail))
  all_goals
    go_wp2_with fail
    first
    | exact HR.out _ _ ⟨_, _, _, _, rfl, (two_rows M.out _ _ _ _ (by decide) (by decide)).1, (two_rows M.out _ _ _ _ (by decide) (by decide)).2, ((M.out.alloc _).alloc _).drew⟩
    | exact HR.out _ _ ⟨_, _, _, _, rfl, (two_rows M.out _ _ _ _ (by decide) (by decide)).2, (two_rows M.out _ _ _ _ (by decide) (by decide)).1, ((M.out.alloc _).alloc _).drew⟩
set_option maxRecDepth 10000 in
set_option maxHeartbeats 2000000 in
theorem parts111 (b0 b1 b2 : ByteArray) (ok : Bool) (hok : (decide (b0.size ≤ 512) && decide (b1.size ≤ 512) && decide (b2.size ≤ 512)) = ok) (w : World) : Calls Tryz.prog 37 #[.iface 95 (.agg #[.string b0, .string b1, .string b2])] w (PartsB ok w [] [.string b0, .string b1, .string b2]) := by
  refine opq fun R HR => ?_
  have m83 := fun W => as83_no W 95 (.agg #[.string b0, .string b1, .string b2]) (by decide)
  have m62 := fun W => as62_no W 95 (.agg #[.string b0, .string b1, .string b2]) (by decide)
  have m98 := fun W => as98_no W 95 (.agg #[.string b0, .string b1, .string b2]) (by decide)
  have m99 := fun W => as99_no W 95 (.agg #[.string b0, .string b1, .string b2]) (by decide)
  have m61 := fun W => as61_no W 95 (.agg #[.string b0, .string b1, .string b2]) (by decide)
  have m100 := fun W => as100_no W 95 (.agg #[.string b0, .string b1, .string b2]) (by decide)
  have m102 := fun W => as102_no W 95 (.agg #[.string b0, .string b1, .string b2]) (by decide)
  have m104 := fun W => as104_no W 95 (.agg #[.string b0, .string b1, .string b2]) (by decide)
  have m105 := fun W => as105_no W 95 (.agg #[.string b0, .string b1, .string b2]) (by decide)
  have m26 := fun W => as26_no W 95 (.agg #[.string b0, .string b1, .string b2]) (by decide)
  have m109 := fun W => as109_no W 95 (.agg #[.string b0, .string b1, .string b2]) (by decide)
  have m111 := fun W => as111_yes W (.agg #[.string b0, .string b1, .string b2])
  obtain ⟨n0, hn0⟩ : ∃ n, b0.size = n := ⟨_, rfl⟩
  obtain ⟨n1, hn1⟩ : ∃ n, b1.size = n := ⟨_, rfl⟩
  obtain ⟨n2, hn2⟩ : ∃ n, b2.size = n := ⟨_, rfl⟩
  obtain ⟨m, hm⟩ : ∃ m : Int, max (max (n0 : Int) n1) n2 = m := ⟨_, rfl⟩
  have mx : ∀ W, (Builtin.max_ #[3, 3, 3] 3 #[.int .i64 (n0 : Int), .int .i64 (n1 : Int), .int .i64 (n2 : Int)]).run Tryz.prog W = .ok (.int .i64 m) W := by
    intro W
    rw [run_max_int3, ← hm]
    congr 2
    repeat' split
    all_goals omega
  have hn5 : decide (m ≤ 512) = ok := by rw [← hok, hn0, hn1, hn2, ← Bool.decide_and, ← Bool.decide_and]; exact decide_eq_decide.2 (by omega)
  clear hok hm
  go_enter Tryz.func37, Tryz.ntmps37
  go_wp2_with fail
  have B := Lib.hid (Blk.new w #[.string b0, .string b1, .string b2] 95)
  have M := Lib.hid ((Mod.refl (fun _ => False) w).alloc (.cells #[.string b0, .string b1, .string b2] 95))
  generalize w.alloc _ = W at *
  generalize hZ : w.heap.size = Z at *
  have HK := Lib.hid (fun (W' : World) (M : Same W W') => (B.out.mod M (fun q => q)).cell)
  have hc := B.out.cell
  go_region_held3 (fun w' => ∀ i, w'.cell? ⟨Z, i, none⟩ = #[Value.string b0, .string b1, .string b2][i]?) (first | exact HK.out _ ((Mod.refl _ _).drew) | exact HK.out _ (((Mod.refl _ _).alloc _).drew) | assumption) ((first | fail))
  all_goals
    go_wp2_with fail
    exact HR.out _ _ ⟨none, 0, _, _, rfl, RowNew.nil _ _ _, one_row M.out _ _ (by decide), (M.out.alloc _).drew⟩
end Go.Proofs.YtdengmlidckkeaaGreatDoor
