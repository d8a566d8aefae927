import Derived.Test.YthkpmmkddgjhmaaMillY
set_option linter.unusedSimpArgs false
set_option linter.unusedVariables false
namespace Go.Proofs.Ythkpmmkddgjhmaa
open Go Go.RowKit
/-- The reference's next order, of whatever kind. -/
theorem next_any (j : Nat) (hj : j < 15) (D A : Nat) (zs : Nat → Int) (sz s : Int) (w : World) (h : DS w D s) (hs : U64 s) (hi : IntsAt w D (some ⟨A, 0, none⟩) 15 zs) (hw : weighV zs 15 s = (j : Int)) (hz : 1 ≤ sz ∧ sz ≤ 8) :
    Calls Try.prog 9 #[dptr D, .slice (some ⟨A, 0, none⟩) 15 15, .int .i64 sz] w (NextX w D (ordO j (1 + belV 4 (weighS zs 15 s)) sz (belS 4 (weighS zs 15 s)))) := by
  have hk : j = 0 ∨ j = 1 ∨ j = 2 ∨ j = 3 ∨ j = 4 ∨ j = 5 ∨ j = 6 ∨ j = 7 ∨ j = 8 ∨ j = 9 ∨ j = 10 ∨ j = 11 ∨ j = 12 ∨ j = 13 ∨ j = 14 := by omega
  rcases hk with rfl | rfl | rfl | rfl | rfl | rfl | rfl | rfl | rfl | rfl | rfl | rfl | rfl | rfl | rfl
  · exact next0 D A zs sz s w h hs hi hw hz
  · exact next1 D A zs sz s w h hs hi hw hz
  · exact next2 D A zs sz s w h hs hi hw hz
  · exact next3 D A zs sz s w h hs hi hw hz
  · exact next4 D A zs sz s w h hs hi hw hz
  · exact next5 D A zs sz s w h hs hi hw hz
  · exact next6 D A zs sz s w h hs hi hw hz
  · exact next7 D A zs sz s w h hs hi hw hz
  · exact next8 D A zs sz s w h hs hi hw hz
  · exact next9 D A zs sz s w h hs hi hw hz
  · exact next10 D A zs sz s w h hs hi hw hz
  · exact next11 D A zs sz s w h hs hi hw hz
  · exact next12 D A zs sz s w h hs hi hw hz
  · exact next13 D A zs sz s w h hs hi hw hz
  · exact next14 D A zs sz s w h hs hi hw hz
set_option maxRecDepth 10000 in
/-- Where no weight counts the reference says that there is none. -/
theorem next_none (D A : Nat) (zs : Nat → Int) (sz s : Int) (w : World) (h : DS w D s) (hs : U64 s) (hi : IntsAt w D (some ⟨A, 0, none⟩) 15 zs) (hw : weighV zs 15 s = -1) :
    Calls Try.prog 9 #[dptr D, .slice (some ⟨A, 0, none⟩) 15 15, .int .i64 sz] w fun e w' => e = .returned (.tuple #[.agg #[.int .i64 0, .slice none 0 0, .slice none 0 0], .bool false]) ∧ DS w' D (weighS zs 15 s) ∧ Mod (fun i => i = D) w w' := by
  refine opq fun R HR => ?_
  have HW := Lib.hid (fun wz hd hi => rdweigh_any D s (some ⟨A, 0, none⟩) 15 15 zs wz hd hs (by omega) hi)
  rw [hw] at HW
  generalize weighS zs 15 s = t at *
  have H := Lib.hid h
  have HI := Lib.hid hi
  have hDlt := h.lt
  clear h hi hw
  go_enter Try.func9, Try.ntmps9
  go_wp2_with fail
  refine (HW.out _ (H.out.alloc _) (fun q => let ⟨b, o, h1, h2, h3, h4⟩ := HI.out q; ⟨b, o, h1, by simp; omega, h3, fun i hi => by rw [World.cell?_alloc_lt _ _ _ h2]; exact h4 i hi⟩)).mono ?_
  have B0 := Lib.hid (Blk.new w #[.int .i64 0, .slice none 0 0, .slice none 0 0] 45)
  have M0 := Lib.hid ((Mod.refl (fun i => i = D) w).alloc (.cells #[.int .i64 0, .slice none 0 0, .slice none 0 0] 45))
  have hZ0 : w.heap.size ≠ D := by omega
  have hG0 : w.heap.size ≤ w.heap.size := Nat.le_refl _
  generalize w.alloc _ = W at *
  generalize hzz : w.heap.size = Z0 at hG0 hZ0 B0 ⊢
  rintro e w1 ⟨rfl, hd, hM⟩
  have M1 := Lib.hid (M0.out.trans hM)
  have B01 := Lib.hid (B0.out.mod hM hZ0)
  have D1 := Lib.hid hd
  clear hd hM B0 M0 HW
  have hc0 := B01.out.cell
  have hf0 := B01.out.free
  have hl0 := B01.out.lt
  go_wp2_with fail
  obtain ⟨Wz, he, c0, c1, c2, hDD, hMM, _⟩ := nxt_fin0 M1.out D1.out B01.out hZ0 (Nat.le_of_eq hzz) (.int .i64 0) (.slice none 0 0) (.slice none 0 0)
  rw [he]
  have HD := Lib.hid hDD
  have HM := Lib.hid hMM
  clear he hDD hMM hc0 hf0
  exact bodyPost_ret (v := .tuple #[.agg #[.int .i64 0, .slice none 0 0, .slice none 0 0], .bool false]) (by simp [results, Try.results9, go_sem, c0, c1, c2]) rfl (HR.out _ _ ⟨rfl, HD.out, HM.out⟩)
end Go.Proofs.Ythkpmmkddgjhmaa
