import Derived.Test.YteommjbbjdbhkaaRankG
set_option linter.unusedSimpArgs false
set_option linter.unusedVariables false
namespace Go.Proofs.Yteommjbbjdbhkaa
open Go Go.RowKit
theorem out5 {w w' : World} (M : Same w w') {b : Nat} {cs : Array Value} (hb : w.heap.size ≤ b) (B : Blk w' b cs) (hs : cs.size = 5) (v0 v1 v2 v3 v4 : Value) :
    ∃ w'', (((((w'.setCell ⟨b, 0, none⟩ v0).setCell ⟨b, 1, none⟩ v1).setCell ⟨b, 2, none⟩ v2).setCell ⟨b, 3, none⟩ v3).setCell ⟨b, 4, none⟩ v4) = w'' ∧ Same w w'' ∧
      w''.cell? ⟨b, 0, none⟩ = some v0 ∧ w''.cell? ⟨b, 1, none⟩ = some v1 ∧ w''.cell? ⟨b, 2, none⟩ = some v2 ∧ w''.cell? ⟨b, 3, none⟩ = some v3 ∧ w''.cell? ⟨b, 4, none⟩ = some v4 := by
  have hq : ∀ k : Nat, (⟨b, k, none⟩ : Addr).block < w.heap.size → False := fun k q => by
    have q' : b < w.heap.size := q
    omega
  have B' := ((((B.set 0 v0).set 1 v1).set 2 v2).set 3 v3).set 4 v4
  refine ⟨_, rfl, ((((M.setCell (hq 0) v0).setCell (hq 1) v1).setCell (hq 2) v2).setCell (hq 3) v3).setCell (hq 4) v4, ?_, ?_, ?_, ?_, ?_⟩ <;>
    (rw [B'.cell]; simp [Array.getElem?_setIfInBounds, hs])
set_option maxHeartbeats 2000000 in
theorem of_any (a : Option Addr) (cap : Nat) (L : List It) (c : Int) (w : World) (hl : L.length ≤ 1000) (hI : Its w a L) :
    Calls Try.prog 39 #[.slice a L.length cap, .int .i64 c] w fun e w' => e = .returned (itV (ofC L c).c (ofC L c).h (ofC L c).t (ofC L c).p (ofC L c).b) ∧ Same w w' := by
  refine opq fun R HR => ?_
  unfold ofC at HR
  have HIx := Lib.hid (fun (wz : World) (M : Same w wz) (hB : w.heap.size < wz.heap.size) (hn : wz.cell? ⟨w.heap.size, 0, none⟩ = some (.int .i64 c)) => index_any w.heap.size c a cap L wz hl (hI.same M) hB hn)
  have HI := Lib.hid hI
  have HL := Lib.hid (fun q x (h : L[q]? = some x) => (List.getElem?_eq_some_iff.1 h).1)
  clear hI
  obtain ⟨n, hn⟩ : ∃ n, L.length = n := ⟨_, rfl⟩
  rw [hn] at hl HIx ⊢
  have HN := Lib.hid hn
  clear hn
  go_enter Try.func39, Try.ntmps39
  have M2 := Lib.hid (((Mod.refl (fun _ => False) w).alloc (.cells #[.int .i64 c] 3)).alloc (.cells #[.int .i64 0, .int .i64 0, .int .i64 0, .bool false, .bool false] 53))
  have B2 := Lib.hid (Blk.new (w.alloc (.cells #[.int .i64 c] 3)) #[.int .i64 0, .int .i64 0, .int .i64 0, .bool false, .bool false] 53)
  have B1 := Lib.hid (Blk.new w #[.int .i64 c] 3)
  go_wp2_with fail
  refine (HIx.out _ M2.out (by simp; omega) (by simp [go_sem])).mono ?_
  generalize (w.alloc _).alloc _ = W at *
  rintro e w3 ⟨r, rfl, M3, hr⟩
  have hsz := M3.size
  have B3 := Lib.hid (B2.out.mod M3 (fun q => q))
  have J3 := Lib.hid (M2.out.same M3)
  have hX := B3.out.cell
  have hXl := B3.out.lt
  have hXn : (w.alloc (.cells #[.int .i64 c] 3)).heap.size = w.heap.size + 1 := by simp
  have hXf := B3.out.free
  have B4 := B3.out
  rw [hXn] at hX hXl hXf B4
  have B5 := Lib.hid B4
  clear B4
  rcases hr with ⟨rfl, hf⟩ | ⟨q, x, rfl, hq, hf⟩
  · rw [hf] at HR
    clear hf M3
    go_wp2
    obtain ⟨w4, he, M4, h0, h1, h2, h3, h4⟩ := out5 J3.out (b := w.heap.size + 1) (by omega) B5.out rfl (.int .i64 0) (.int .i64 0) (.int .i64 0) (.bool false) (.bool false)
    rw [he]
    have J4 := Lib.hid M4
    clear he M4 hX hXf
    exact bodyPost_ret (v := itV 0 0 0 false false) (by simp [results, Try.results39, go_sem, h0, h1, h2, h3, h4]) rfl (HR.out _ _ ⟨rfl, J4.out⟩)
  · rw [hf] at HR
    obtain ⟨b1, o1, rfl, hb1, hc1⟩ := (HI.out.same J3.out) (by have := HL.out q x hq; omega)
    obtain ⟨e0, e1, e2, e3, e4⟩ := hc1 q x hq
    have hqn : q < n := by have := HL.out q x hq; rw [HN.out] at this; exact this
    clear hf M3 hc1 hq
    go_wp2
    obtain ⟨w4, he, M4, h0, h1, h2, h3, h4⟩ := out5 J3.out (b := w.heap.size + 1) (by omega) B5.out rfl (.int .i64 x.c) (.int .i64 x.h) (.int .i64 x.t) (.bool x.p) (.bool x.b)
    rw [he]
    have J4 := Lib.hid M4
    clear he M4 hX hXf
    exact bodyPost_ret (v := itV x.c x.h x.t x.p x.b) (by simp [results, Try.results39, go_sem, h0, h1, h2, h3, h4]) rfl (HR.out _ _ ⟨rfl, J4.out⟩)
end Go.Proofs.Yteommjbbjdbhkaa
