import Derived.Test.YthkpmmkddgjhmaaMillP
set_option linter.unusedSimpArgs false
set_option linter.unusedVariables false
namespace Go.Proofs.Ythkpmmkddgjhmaa
open Go Go.RowKit
theorem nxt_fin0 {w w3 : World} {D Z0 : Nat} {t : Int} (M : Mod (fun i => i = D) w w3) (hd : DS w3 D t) (B0 : Blk w3 Z0 #[.int .i64 0, .slice none 0 0, .slice none 0 0]) (n0 : Z0 ≠ D) (g0 : w.heap.size ≤ Z0) (kv nv dv : Value) :
    ∃ W, (((w3.setCell ⟨Z0, 0, none⟩ kv).setCell ⟨Z0, 1, none⟩ nv).setCell ⟨Z0, 2, none⟩ dv) = W ∧
      W.cell? ⟨Z0, 0, none⟩ = some kv ∧ W.cell? ⟨Z0, 1, none⟩ = some nv ∧ W.cell? ⟨Z0, 2, none⟩ = some dv ∧ DS W D t ∧ Mod (fun i => i = D) w W ∧ ∀ b, b ≠ Z0 → ∀ i, W.cell? ⟨b, i, none⟩ = w3.cell? ⟨b, i, none⟩ := by
  have q0 : ∀ k : Nat, (⟨Z0, k, none⟩ : Addr).block < w.heap.size → (⟨Z0, k, none⟩ : Addr).block = D := fun k q => by
    have q' : Z0 < w.heap.size := q
    omega
  have B := ((B0.set 0 kv).set 1 nv).set 2 dv
  refine ⟨_, rfl, ?_, ?_, ?_, ((hd.set_far (p := ⟨Z0, 0, none⟩) n0 kv).set_far (p := ⟨Z0, 1, none⟩) n0 nv).set_far (p := ⟨Z0, 2, none⟩) n0 dv, ((M.setCell (q0 0) kv).setCell (q0 1) nv).setCell (q0 2) dv, fun b hb i => ?_⟩
  · exact B.at_ (i := 0) kv rfl
  · exact B.at_ (i := 1) nv rfl
  · exact B.at_ (i := 2) dv rfl
  · have hne : ∀ k, (⟨Z0, k, none⟩ : Addr) ≠ ⟨b, i, none⟩ := fun k e => hb (by injection e with e1; exact e1.symm)
    rw [World.cell?_setCell_other _ _ _ _ (hne 2), World.cell?_setCell_other _ _ _ _ (hne 1), World.cell?_setCell_other _ _ _ _ (hne 0)]
set_option maxRecDepth 10000 in
set_option maxHeartbeats 4000000 in
theorem next9 (D A : Nat) (zs : Nat → Int) (sz s : Int) (w : World) (h : DS w D s) (hs : U64 s) (hi : IntsAt w D (some ⟨A, 0, none⟩) 15 zs) (hw : weighV zs 15 s = 9) (hz : 1 ≤ sz ∧ sz ≤ 8) :
    Calls Try.prog 9 #[dptr D, .slice (some ⟨A, 0, none⟩) 15 15, .int .i64 sz] w (NextX w D (ordO 9 (1 + belV 4 (weighS zs 15 s)) sz (belS 4 (weighS zs 15 s)))) := by
  refine opq fun R HR => ?_
  have HW := Lib.hid (fun wz hd hi => rdweigh_any D s (some ⟨A, 0, none⟩) 15 15 zs wz hd hs (by omega) hi)
  have hu := weighS_u zs 15 s hs
  rw [hw] at HW
  generalize weighS zs 15 s = t at *
  have H := Lib.hid h
  have HI := Lib.hid hi
  have hDlt := h.lt
  have hu4 := belS_u 4 t hu
  have hb4 := belV_bd 4 t
  have H4 := Lib.hid (fun wz (hd : DS wz D t) => rdbelow_any D t 4 wz hd hu (by omega))
  generalize belV 4 t = v4 at *
  generalize belS 4 t = t4 at *
  have e4 : IntKind.i64.wrap (1 + v4) = 1 + v4 := IntWalk.i64_in _ (by omega)
  clear h hi hw
  go_enter Try.func9, Try.ntmps9
  go_wp2_with fail
  refine (HW.out _ (H.out.alloc _) (fun q => let ⟨b, o, h1, h2, h3, h4⟩ := HI.out q; ⟨b, o, h1, by simp; omega, h3, fun i hi => by rw [World.cell?_alloc_lt _ _ _ h2]; exact h4 i hi⟩)).mono ?_
  have B0 := Lib.hid (Blk.new w #[.int .i64 0, .slice none 0 0, .slice none 0 0] 45)
  have M0 := Lib.hid ((Mod.refl (fun i => i = D) w).alloc (.cells #[.int .i64 0, .slice none 0 0, .slice none 0 0] 45))
  have hZ0 : w.heap.size ≠ D := by omega
  have hG0 : w.heap.size ≤ w.heap.size := Nat.le_refl _
  generalize w.alloc _ = W at *
  generalize hzz : w.heap.size = Z0 at hG0 hZ0 B0 ⊢
  rintro e w1 ⟨rfl, hd, hM⟩
  have M1 := Lib.hid (M0.out.trans hM)
  have B01 := Lib.hid (B0.out.mod hM hZ0)
  have D1 := Lib.hid hd
  clear hd hM B0 M0 HW
  go_wp2_with fail
  refine (H4.out _ (D1.out.alloc _)).mono ?_
  have hZ1D : w1.heap.size ≠ D := by have := D1.out.lt; omega
  have hZ01 : Z0 ≠ w1.heap.size := by have := B01.out.lt; omega
  have hG1 : w.heap.size ≤ w1.heap.size := M1.out.size
  have B02 := Lib.hid (B01.out.alloc (.cells #[.int .i64 10, .slice none 0 0, .slice none 0 0] 45))
  have B12 := Lib.hid (Blk.new w1 #[.int .i64 10, .slice none 0 0, .slice none 0 0] 45)
  have M2 := Lib.hid (M1.out.alloc (.cells #[.int .i64 10, .slice none 0 0, .slice none 0 0] 45))
  generalize w1.alloc _ = W1 at *
  generalize w1.heap.size = Z1 at *
  rintro e w2 ⟨rfl, hd, hM⟩
  have M3 := Lib.hid (M2.out.trans hM)
  have B03 := Lib.hid (B02.out.mod hM hZ0)
  have B13 := Lib.hid (B12.out.mod hM hZ1D)
  have D3 := Lib.hid hd
  clear hd hM B02 B12 M2 H4 D1 M1 B01 HI H
  have hc0 := B03.out.cell
  have hf0 := B03.out.free
  have hl0 := B03.out.lt
  have hc1 := B13.out.cell
  have hf1 := B13.out.free
  have hl1 := B13.out.lt
  go_wp2_with fail
  obtain ⟨Wz, he, c0, c1, c2, hDD, hMM, _⟩ := nxt_fin0 M3.out D3.out B03.out hZ0 (by omega) (.int .i64 10) (.slice none 0 0) (.slice none 0 0)
  rw [he]
  have HD := Lib.hid hDD
  have HM := Lib.hid hMM
  clear he hDD hMM hc0 hf0 hc1 hf1
  exact bodyPost_ret (v := .tuple #[.agg #[.int .i64 10, .slice none 0 0, .slice none 0 0], .bool true]) (by simp [results, Try.results9, go_sem, c0, c1, c2]) rfl (HR.out _ _ ⟨_, rfl, ⟨_, _, _, _, rfl, FarRow.nil _ _ _, FarRow.nil _ _ _⟩, HD.out, HM.out⟩)
set_option maxRecDepth 10000 in
set_option maxHeartbeats 4000000 in
theorem next11 (D A : Nat) (zs : Nat → Int) (sz s : Int) (w : World) (h : DS w D s) (hs : U64 s) (hi : IntsAt w D (some ⟨A, 0, none⟩) 15 zs) (hw : weighV zs 15 s = 11) (hz : 1 ≤ sz ∧ sz ≤ 8) :
    Calls Try.prog 9 #[dptr D, .slice (some ⟨A, 0, none⟩) 15 15, .int .i64 sz] w (NextX w D (ordO 11 (1 + belV 4 (weighS zs 15 s)) sz (belS 4 (weighS zs 15 s)))) := by
  refine opq fun R HR => ?_
  have HW := Lib.hid (fun wz hd hi => rdweigh_any D s (some ⟨A, 0, none⟩) 15 15 zs wz hd hs (by omega) hi)
  have hu := weighS_u zs 15 s hs
  rw [hw] at HW
  generalize weighS zs 15 s = t at *
  have H := Lib.hid h
  have HI := Lib.hid hi
  have hDlt := h.lt
  have hu4 := belS_u 4 t hu
  have hb4 := belV_bd 4 t
  have H4 := Lib.hid (fun wz (hd : DS wz D t) => rdbelow_any D t 4 wz hd hu (by omega))
  generalize belV 4 t = v4 at *
  generalize belS 4 t = t4 at *
  have e4 : IntKind.i64.wrap (1 + v4) = 1 + v4 := IntWalk.i64_in _ (by omega)
  clear h hi hw
  go_enter Try.func9, Try.ntmps9
  go_wp2_with fail
  refine (HW.out _ (H.out.alloc _) (fun q => let ⟨b, o, h1, h2, h3, h4⟩ := HI.out q; ⟨b, o, h1, by simp; omega, h3, fun i hi => by rw [World.cell?_alloc_lt _ _ _ h2]; exact h4 i hi⟩)).mono ?_
  have B0 := Lib.hid (Blk.new w #[.int .i64 0, .slice none 0 0, .slice none 0 0] 45)
  have M0 := Lib.hid ((Mod.refl (fun i => i = D) w).alloc (.cells #[.int .i64 0, .slice none 0 0, .slice none 0 0] 45))
  have hZ0 : w.heap.size ≠ D := by omega
  have hG0 : w.heap.size ≤ w.heap.size := Nat.le_refl _
  generalize w.alloc _ = W at *
  generalize hzz : w.heap.size = Z0 at hG0 hZ0 B0 ⊢
  rintro e w1 ⟨rfl, hd, hM⟩
  have M1 := Lib.hid (M0.out.trans hM)
  have B01 := Lib.hid (B0.out.mod hM hZ0)
  have D1 := Lib.hid hd
  clear hd hM B0 M0 HW
  go_wp2_with fail
  refine (H4.out _ (D1.out.alloc _)).mono ?_
  have hZ1D : w1.heap.size ≠ D := by have := D1.out.lt; omega
  have hZ01 : Z0 ≠ w1.heap.size := by have := B01.out.lt; omega
  have hG1 : w.heap.size ≤ w1.heap.size := M1.out.size
  have B02 := Lib.hid (B01.out.alloc (.cells #[.int .i64 12, .slice none 0 0, .slice none 0 0] 45))
  have B12 := Lib.hid (Blk.new w1 #[.int .i64 12, .slice none 0 0, .slice none 0 0] 45)
  have M2 := Lib.hid (M1.out.alloc (.cells #[.int .i64 12, .slice none 0 0, .slice none 0 0] 45))
  generalize w1.alloc _ = W1 at *
  generalize w1.heap.size = Z1 at *
  rintro e w2 ⟨rfl, hd, hM⟩
  have M3 := Lib.hid (M2.out.trans hM)
  have B03 := Lib.hid (B02.out.mod hM hZ0)
  have B13 := Lib.hid (B12.out.mod hM hZ1D)
  have D3 := Lib.hid hd
  clear hd hM B02 B12 M2 H4 D1 M1 B01 HI H
  have hc0 := B03.out.cell
  have hf0 := B03.out.free
  have hl0 := B03.out.lt
  have hc1 := B13.out.cell
  have hf1 := B13.out.free
  have hl1 := B13.out.lt
  go_wp2_with fail
  obtain ⟨Wz, he, c0, c1, c2, hDD, hMM, _⟩ := nxt_fin0 M3.out D3.out B03.out hZ0 (by omega) (.int .i64 12) (.slice none 0 0) (.slice none 0 0)
  rw [he]
  have HD := Lib.hid hDD
  have HM := Lib.hid hMM
  clear he hDD hMM hc0 hf0 hc1 hf1
  exact bodyPost_ret (v := .tuple #[.agg #[.int .i64 12, .slice none 0 0, .slice none 0 0], .bool true]) (by simp [results, Try.results9, go_sem, c0, c1, c2]) rfl (HR.out _ _ ⟨_, rfl, ⟨_, _, _, _, rfl, FarRow.nil _ _ _, FarRow.nil _ _ _⟩, HD.out, HM.out⟩)
set_option maxRecDepth 10000 in
set_option maxHeartbeats 4000000 in
theorem next12 (D A : Nat) (zs : Nat → Int) (sz s : Int) (w : World) (h : DS w D s) (hs : U64 s) (hi : IntsAt w D (some ⟨A, 0, none⟩) 15 zs) (hw : weighV zs 15 s = 12) (hz : 1 ≤ sz ∧ sz ≤ 8) :
    Calls Try.prog 9 #[dptr D, .slice (some ⟨A, 0, none⟩) 15 15, .int .i64 sz] w (NextX w D (ordO 12 (1 + belV 4 (weighS zs 15 s)) sz (belS 4 (weighS zs 15 s)))) := by
  refine opq fun R HR => ?_
  have HW := Lib.hid (fun wz hd hi => rdweigh_any D s (some ⟨A, 0, none⟩) 15 15 zs wz hd hs (by omega) hi)
  have hu := weighS_u zs 15 s hs
  rw [hw] at HW
  generalize weighS zs 15 s = t at *
  have H := Lib.hid h
  have HI := Lib.hid hi
  have hDlt := h.lt
  have hu4 := belS_u 4 t hu
  have hb4 := belV_bd 4 t
  have H4 := Lib.hid (fun wz (hd : DS wz D t) => rdbelow_any D t 4 wz hd hu (by omega))
  generalize belV 4 t = v4 at *
  generalize belS 4 t = t4 at *
  have e4 : IntKind.i64.wrap (1 + v4) = 1 + v4 := IntWalk.i64_in _ (by omega)
  clear h hi hw
  go_enter Try.func9, Try.ntmps9
  go_wp2_with fail
  refine (HW.out _ (H.out.alloc _) (fun q => let ⟨b, o, h1, h2, h3, h4⟩ := HI.out q; ⟨b, o, h1, by simp; omega, h3, fun i hi => by rw [World.cell?_alloc_lt _ _ _ h2]; exact h4 i hi⟩)).mono ?_
  have B0 := Lib.hid (Blk.new w #[.int .i64 0, .slice none 0 0, .slice none 0 0] 45)
  have M0 := Lib.hid ((Mod.refl (fun i => i = D) w).alloc (.cells #[.int .i64 0, .slice none 0 0, .slice none 0 0] 45))
  have hZ0 : w.heap.size ≠ D := by omega
  have hG0 : w.heap.size ≤ w.heap.size := Nat.le_refl _
  generalize w.alloc _ = W at *
  generalize hzz : w.heap.size = Z0 at hG0 hZ0 B0 ⊢
  rintro e w1 ⟨rfl, hd, hM⟩
  have M1 := Lib.hid (M0.out.trans hM)
  have B01 := Lib.hid (B0.out.mod hM hZ0)
  have D1 := Lib.hid hd
  clear hd hM B0 M0 HW
  go_wp2_with fail
  refine (H4.out _ (D1.out.alloc _)).mono ?_
  have hZ1D : w1.heap.size ≠ D := by have := D1.out.lt; omega
  have hZ01 : Z0 ≠ w1.heap.size := by have := B01.out.lt; omega
  have hG1 : w.heap.size ≤ w1.heap.size := M1.out.size
  have B02 := Lib.hid (B01.out.alloc (.cells #[.int .i64 13, .slice none 0 0, .slice none 0 0] 45))
  have B12 := Lib.hid (Blk.new w1 #[.int .i64 13, .slice none 0 0, .slice none 0 0] 45)
  have M2 := Lib.hid (M1.out.alloc (.cells #[.int .i64 13, .slice none 0 0, .slice none 0 0] 45))
  generalize w1.alloc _ = W1 at *
  generalize w1.heap.size = Z1 at *
  rintro e w2 ⟨rfl, hd, hM⟩
  have M3 := Lib.hid (M2.out.trans hM)
  have B03 := Lib.hid (B02.out.mod hM hZ0)
  have B13 := Lib.hid (B12.out.mod hM hZ1D)
  have D3 := Lib.hid hd
  clear hd hM B02 B12 M2 H4 D1 M1 B01 HI H
  have hc0 := B03.out.cell
  have hf0 := B03.out.free
  have hl0 := B03.out.lt
  have hc1 := B13.out.cell
  have hf1 := B13.out.free
  have hl1 := B13.out.lt
  go_wp2_with fail
  obtain ⟨Wz, he, c0, c1, c2, hDD, hMM, _⟩ := nxt_fin0 M3.out D3.out B03.out hZ0 (by omega) (.int .i64 13) (.slice none 0 0) (.slice none 0 0)
  rw [he]
  have HD := Lib.hid hDD
  have HM := Lib.hid hMM
  clear he hDD hMM hc0 hf0 hc1 hf1
  exact bodyPost_ret (v := .tuple #[.agg #[.int .i64 13, .slice none 0 0, .slice none 0 0], .bool true]) (by simp [results, Try.results9, go_sem, c0, c1, c2]) rfl (HR.out _ _ ⟨_, rfl, ⟨_, _, _, _, rfl, FarRow.nil _ _ _, FarRow.nil _ _ _⟩, HD.out, HM.out⟩)
end Go.Proofs.Ythkpmmkddgjhmaa
