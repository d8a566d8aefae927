import Derived.Test.YthkpmmkddgjhmaaMillO
set_option linter.unusedSimpArgs false
set_option linter.unusedVariables false
namespace Go.Proofs.Ythkpmmkddgjhmaa
open Go Go.RowKit
def RowAt (w : World) (a : Option Addr) (vs : List Value) : Prop := 0 < vs.length → ∃ b o, a = some ⟨b, o, none⟩ ∧ b < w.heap.size ∧ ∀ i v, vs[i]? = some v → w.cell? ⟨b, o + i, none⟩ = some v
theorem RowAt.blk {w : World} {g : Nat} {cs : Array Value} (h : Blk w g cs) : RowAt w (some ⟨g, 0, none⟩) cs.toList :=
  fun _ => ⟨g, 0, rfl, h.lt, fun i v hv => by rw [Nat.zero_add]; exact (h.cell i).trans (by simpa using hv)⟩
theorem RowAt.nil (w : World) (a : Option Addr) : RowAt w a [] := fun q => absurd q (by simp)
/-- Values in memory, in a block from K on. -/
def FarRow (K : Nat) (w : World) (a : Option Addr) (vs : List Value) : Prop := 0 < vs.length → ∃ b o, a = some ⟨b, o, none⟩ ∧ K ≤ b ∧ b < w.heap.size ∧ ∀ i v, vs[i]? = some v → w.cell? ⟨b, o + i, none⟩ = some v
theorem FarRow.blk {K : Nat} {w : World} {g : Nat} {cs : Array Value} (h : Blk w g cs) (hg : K ≤ g) : FarRow K w (some ⟨g, 0, none⟩) cs.toList :=
  fun _ => ⟨g, 0, rfl, hg, h.lt, fun i v hv => by rw [Nat.zero_add]; exact (h.cell i).trans (by simpa using hv)⟩
theorem FarRow.nil (K : Nat) (w : World) (a : Option Addr) : FarRow K w a [] := fun q => absurd q (by simp)
theorem FarRow.row {K : Nat} {w : World} {a : Option Addr} {vs : List Value} (h : FarRow K w a vs) : RowAt w a vs := fun q => let ⟨b, o, h1, _, h3, h4⟩ := h q; ⟨b, o, h1, h3, h4⟩
/-- The document's order in memory. -/
def OrdRef (K : Nat) (w : World) (v : Value) (o : OV) : Prop := ∃ a1 c1 a2 c2, v = .agg #[.int .i64 ((o.k : Int) + 1), .slice a1 o.nums.length c1, .slice a2 o.data.length c2] ∧ FarRow K w a1 (o.nums.map (Value.int .i64)) ∧ FarRow K w a2 (o.data.map Value.string)
def NextX (w : World) (D : Nat) (o : OV × Int) (e : Ending) (w' : World) : Prop := ∃ v, e = .returned (.tuple #[v, .bool true]) ∧ OrdRef w.heap.size w' v o.1 ∧ DS w' D o.2 ∧ Mod (fun i => i = D) w w'
theorem nxt_fin {w w3 : World} {D Z0 Z1 : Nat} {t : Int} {c1 : Array Value} (M : Mod (fun i => i = D) w w3) (hd : DS w3 D t) (B0 : Blk w3 Z0 #[.int .i64 0, .slice none 0 0, .slice none 0 0]) (B1 : Blk w3 Z1 c1) (n0 : Z0 ≠ D) (n1 : Z1 ≠ D) (n01 : Z0 ≠ Z1) (g0 : w.heap.size ≤ Z0) (g1 : w.heap.size ≤ Z1) (p kv nv dv : Value) (cs : Array Value) (T : TypeId) :
    ∃ W, (((((w3.setCell ⟨Z1, 1, none⟩ p).setCell ⟨Z0, 0, none⟩ kv).setCell ⟨Z0, 1, none⟩ nv).setCell ⟨Z0, 2, none⟩ dv).alloc (.cells cs T)) = W ∧
      W.cell? ⟨Z0, 0, none⟩ = some kv ∧ W.cell? ⟨Z0, 1, none⟩ = some nv ∧ W.cell? ⟨Z0, 2, none⟩ = some dv ∧ Blk W w3.heap.size cs ∧ DS W D t ∧ Mod (fun i => i = D) w W := by
  have q0 : ∀ k : Nat, (⟨Z0, k, none⟩ : Addr).block < w.heap.size → (⟨Z0, k, none⟩ : Addr).block = D := fun k q => by
    have q' : Z0 < w.heap.size := q
    omega
  have q1 : ∀ k : Nat, (⟨Z1, k, none⟩ : Addr).block < w.heap.size → (⟨Z1, k, none⟩ : Addr).block = D := fun k q => by
    have q' : Z1 < w.heap.size := q
    omega
  have B := (((((B0.set_far (p := ⟨Z1, 1, none⟩) (fun e => n01 (show Z0 = Z1 from e.symm)) p).set 0 kv).set 1 nv).set 2 dv).alloc (.cells cs T))
  refine ⟨_, rfl, ?_, ?_, ?_, ?_, ((((hd.set_far (p := ⟨Z1, 1, none⟩) n1 p).set_far (p := ⟨Z0, 0, none⟩) n0 kv).set_far (p := ⟨Z0, 1, none⟩) n0 nv).set_far (p := ⟨Z0, 2, none⟩) n0 dv).alloc _, ((((M.setCell (q1 1) p).setCell (q0 0) kv).setCell (q0 1) nv).setCell (q0 2) dv).alloc _⟩
  · exact B.at_ (i := 0) kv rfl
  · exact B.at_ (i := 1) nv rfl
  · exact B.at_ (i := 2) dv rfl
  · have := Blk.new ((((w3.setCell ⟨Z1, 1, none⟩ p).setCell ⟨Z0, 0, none⟩ kv).setCell ⟨Z0, 1, none⟩ nv).setCell ⟨Z0, 2, none⟩ dv) cs T
    simpa using this
set_option maxRecDepth 10000 in
set_option maxHeartbeats 4000000 in
theorem next0 (D A : Nat) (zs : Nat → Int) (sz s : Int) (w : World) (h : DS w D s) (hs : U64 s) (hi : IntsAt w D (some ⟨A, 0, none⟩) 15 zs) (hw : weighV zs 15 s = 0) (hz : 1 ≤ sz ∧ sz ≤ 8) :
    Calls Try.prog 9 #[dptr D, .slice (some ⟨A, 0, none⟩) 15 15, .int .i64 sz] w (NextX w D (ordO 0 (1 + belV 4 (weighS zs 15 s)) sz (belS 4 (weighS zs 15 s)))) := by
  refine opq fun R HR => ?_
  have HW := Lib.hid (fun wz hd hi => rdweigh_any D s (some ⟨A, 0, none⟩) 15 15 zs wz hd hs (by omega) hi)
  have hu := weighS_u zs 15 s hs
  rw [hw] at HW
  generalize weighS zs 15 s = t at *
  have H := Lib.hid h
  have HI := Lib.hid hi
  have hDlt := h.lt
  have hu4 := belS_u 4 t hu
  have hb4 := belV_bd 4 t
  have H4 := Lib.hid (fun wz (hd : DS wz D t) => rdbelow_any D t 4 wz hd hu (by omega))
  generalize belV 4 t = v4 at *
  generalize belS 4 t = t4 at *
  have e4 : IntKind.i64.wrap (1 + v4) = 1 + v4 := IntWalk.i64_in _ (by omega)
  clear h hi hw
  unfold ordO volO at HR
  try dsimp only at HR
  have hb5 := belV_bd (8) t4
  have hu5 := belS_u (8) t4 hu4
  have HC0 := Lib.hid (fun wz (hd : DS wz D t4) => rdbelow_any D t4 (8) wz hd hu4 (by omega))
  generalize belV (8) t4 = v5 at *
  generalize belS (8) t4 = t5 at *
  have e5 : IntKind.i64.wrap (1 + v5) = 1 + v5 := IntWalk.i64_in _ (by omega)
  go_enter Try.func9, Try.ntmps9
  go_wp2_with fail
  refine (HW.out _ (H.out.alloc _) (fun q => let ⟨b, o, h1, h2, h3, h4⟩ := HI.out q; ⟨b, o, h1, by simp; omega, h3, fun i hi => by rw [World.cell?_alloc_lt _ _ _ h2]; exact h4 i hi⟩)).mono ?_
  have B0 := Lib.hid (Blk.new w #[.int .i64 0, .slice none 0 0, .slice none 0 0] 45)
  have M0 := Lib.hid ((Mod.refl (fun i => i = D) w).alloc (.cells #[.int .i64 0, .slice none 0 0, .slice none 0 0] 45))
  have hZ0 : w.heap.size ≠ D := by omega
  have hG0 : w.heap.size ≤ w.heap.size := Nat.le_refl _
  generalize w.alloc _ = W at *
  generalize hzz : w.heap.size = Z0 at hG0 hZ0 B0 ⊢
  rintro e w1 ⟨rfl, hd, hM⟩
  have M1 := Lib.hid (M0.out.trans hM)
  have B01 := Lib.hid (B0.out.mod hM hZ0)
  have D1 := Lib.hid hd
  clear hd hM B0 M0 HW
  go_wp2_with fail
  refine (H4.out _ (D1.out.alloc _)).mono ?_
  have hZ1D : w1.heap.size ≠ D := by have := D1.out.lt; omega
  have hZ01 : Z0 ≠ w1.heap.size := by have := B01.out.lt; omega
  have hG1 : w.heap.size ≤ w1.heap.size := M1.out.size
  have B02 := Lib.hid (B01.out.alloc (.cells #[.int .i64 1, .slice none 0 0, .slice none 0 0] 45))
  have B12 := Lib.hid (Blk.new w1 #[.int .i64 1, .slice none 0 0, .slice none 0 0] 45)
  have M2 := Lib.hid (M1.out.alloc (.cells #[.int .i64 1, .slice none 0 0, .slice none 0 0] 45))
  generalize w1.alloc _ = W1 at *
  generalize w1.heap.size = Z1 at *
  rintro e w2 ⟨rfl, hd, hM⟩
  have M3 := Lib.hid (M2.out.trans hM)
  have B03 := Lib.hid (B02.out.mod hM hZ0)
  have B13 := Lib.hid (B12.out.mod hM hZ1D)
  have D3 := Lib.hid hd
  clear hd hM B02 B12 M2 H4 D1 M1 B01 HI H
  have k0 := B13.out.at_ (i := 0) (.int .i64 1) rfl
  go_wp2_with fail
  refine (HC0.out _ D3.out).mono ?_
  rintro e w3 ⟨rfl, hd, hM⟩
  have M3q := Lib.hid (M3.out.trans hM)
  have B03q := Lib.hid (B03.out.mod hM hZ0)
  have B13q := Lib.hid (B13.out.mod hM hZ1D)
  have D3q := Lib.hid hd
  clear hd hM B03 B13 M3 D3 k0 HC0
  have M3 := M3q
  have B03 := B03q
  have B13 := B13q
  have D3 := D3q
  clear M3q B03q B13q D3q
  have hc0 := B03.out.cell
  have hf0 := B03.out.free
  have hl0 := B03.out.lt
  have hc1 := B13.out.cell
  have hf1 := B13.out.free
  have hl1 := B13.out.lt
  go_wp2_with fail
  have hgD : w.heap.size ≤ w3.heap.size := M3.out.size
  obtain ⟨Wz, he, c0, c1, c2, hB, hDD, hMM⟩ := nxt_fin M3.out D3.out B03.out B13.out hZ0 hZ1D hZ01 (by omega) (by omega) (.slice (some ⟨w3.heap.size, 0, none⟩) 2 2) (.int .i64 1) (.slice (some ⟨w3.heap.size, 0, none⟩) 2 2) (.slice none 0 0) #[.int .i64 (1 + v4), .int .i64 (1 + v5)] 3
  rw [he]
  have HB := Lib.hid hB
  have HD := Lib.hid hDD
  have HM := Lib.hid hMM
  clear he hB hDD hMM hc0 hf0 hc1 hf1
  exact bodyPost_ret (v := .tuple #[.agg #[.int .i64 1, .slice (some ⟨w3.heap.size, 0, none⟩) 2 2, .slice none 0 0], .bool true]) (by simp [results, Try.results9, go_sem, c0, c1, c2]) rfl (HR.out _ _ ⟨_, rfl, ⟨_, _, _, _, rfl, FarRow.blk HB.out hgD, FarRow.nil _ _ _⟩, HD.out, HM.out⟩)
set_option maxRecDepth 10000 in
set_option maxHeartbeats 4000000 in
theorem next1 (D A : Nat) (zs : Nat → Int) (sz s : Int) (w : World) (h : DS w D s) (hs : U64 s) (hi : IntsAt w D (some ⟨A, 0, none⟩) 15 zs) (hw : weighV zs 15 s = 1) (hz : 1 ≤ sz ∧ sz ≤ 8) :
    Calls Try.prog 9 #[dptr D, .slice (some ⟨A, 0, none⟩) 15 15, .int .i64 sz] w (NextX w D (ordO 1 (1 + belV 4 (weighS zs 15 s)) sz (belS 4 (weighS zs 15 s)))) := by
  refine opq fun R HR => ?_
  have HW := Lib.hid (fun wz hd hi => rdweigh_any D s (some ⟨A, 0, none⟩) 15 15 zs wz hd hs (by omega) hi)
  have hu := weighS_u zs 15 s hs
  rw [hw] at HW
  generalize weighS zs 15 s = t at *
  have H := Lib.hid h
  have HI := Lib.hid hi
  have hDlt := h.lt
  have hu4 := belS_u 4 t hu
  have hb4 := belV_bd 4 t
  have H4 := Lib.hid (fun wz (hd : DS wz D t) => rdbelow_any D t 4 wz hd hu (by omega))
  generalize belV 4 t = v4 at *
  generalize belS 4 t = t4 at *
  have e4 : IntKind.i64.wrap (1 + v4) = 1 + v4 := IntWalk.i64_in _ (by omega)
  clear h hi hw
  go_enter Try.func9, Try.ntmps9
  go_wp2_with fail
  refine (HW.out _ (H.out.alloc _) (fun q => let ⟨b, o, h1, h2, h3, h4⟩ := HI.out q; ⟨b, o, h1, by simp; omega, h3, fun i hi => by rw [World.cell?_alloc_lt _ _ _ h2]; exact h4 i hi⟩)).mono ?_
  have B0 := Lib.hid (Blk.new w #[.int .i64 0, .slice none 0 0, .slice none 0 0] 45)
  have M0 := Lib.hid ((Mod.refl (fun i => i = D) w).alloc (.cells #[.int .i64 0, .slice none 0 0, .slice none 0 0] 45))
  have hZ0 : w.heap.size ≠ D := by omega
  have hG0 : w.heap.size ≤ w.heap.size := Nat.le_refl _
  generalize w.alloc _ = W at *
  generalize hzz : w.heap.size = Z0 at hG0 hZ0 B0 ⊢
  rintro e w1 ⟨rfl, hd, hM⟩
  have M1 := Lib.hid (M0.out.trans hM)
  have B01 := Lib.hid (B0.out.mod hM hZ0)
  have D1 := Lib.hid hd
  clear hd hM B0 M0 HW
  go_wp2_with fail
  refine (H4.out _ (D1.out.alloc _)).mono ?_
  have hZ1D : w1.heap.size ≠ D := by have := D1.out.lt; omega
  have hZ01 : Z0 ≠ w1.heap.size := by have := B01.out.lt; omega
  have hG1 : w.heap.size ≤ w1.heap.size := M1.out.size
  have B02 := Lib.hid (B01.out.alloc (.cells #[.int .i64 2, .slice none 0 0, .slice none 0 0] 45))
  have B12 := Lib.hid (Blk.new w1 #[.int .i64 2, .slice none 0 0, .slice none 0 0] 45)
  have M2 := Lib.hid (M1.out.alloc (.cells #[.int .i64 2, .slice none 0 0, .slice none 0 0] 45))
  generalize w1.alloc _ = W1 at *
  generalize w1.heap.size = Z1 at *
  rintro e w2 ⟨rfl, hd, hM⟩
  have M3 := Lib.hid (M2.out.trans hM)
  have B03 := Lib.hid (B02.out.mod hM hZ0)
  have B13 := Lib.hid (B12.out.mod hM hZ1D)
  have D3 := Lib.hid hd
  clear hd hM B02 B12 M2 H4 D1 M1 B01 HI H
  have hc0 := B03.out.cell
  have hf0 := B03.out.free
  have hl0 := B03.out.lt
  have hc1 := B13.out.cell
  have hf1 := B13.out.free
  have hl1 := B13.out.lt
  go_wp2_with fail
  have hgD : w.heap.size ≤ w2.heap.size := M3.out.size
  obtain ⟨Wz, he, c0, c1, c2, hB, hDD, hMM⟩ := nxt_fin M3.out D3.out B03.out B13.out hZ0 hZ1D hZ01 (by omega) (by omega) (.slice (some ⟨w2.heap.size, 0, none⟩) 1 1) (.int .i64 2) (.slice (some ⟨w2.heap.size, 0, none⟩) 1 1) (.slice none 0 0) #[.int .i64 (1 + v4)] 3
  rw [he]
  have HB := Lib.hid hB
  have HD := Lib.hid hDD
  have HM := Lib.hid hMM
  clear he hB hDD hMM hc0 hf0 hc1 hf1
  exact bodyPost_ret (v := .tuple #[.agg #[.int .i64 2, .slice (some ⟨w2.heap.size, 0, none⟩) 1 1, .slice none 0 0], .bool true]) (by simp [results, Try.results9, go_sem, c0, c1, c2]) rfl (HR.out _ _ ⟨_, rfl, ⟨_, _, _, _, rfl, FarRow.blk HB.out hgD, FarRow.nil _ _ _⟩, HD.out, HM.out⟩)
set_option maxRecDepth 10000 in
set_option maxHeartbeats 4000000 in
theorem next2 (D A : Nat) (zs : Nat → Int) (sz s : Int) (w : World) (h : DS w D s) (hs : U64 s) (hi : IntsAt w D (some ⟨A, 0, none⟩) 15 zs) (hw : weighV zs 15 s = 2) (hz : 1 ≤ sz ∧ sz ≤ 8) :
    Calls Try.prog 9 #[dptr D, .slice (some ⟨A, 0, none⟩) 15 15, .int .i64 sz] w (NextX w D (ordO 2 (1 + belV 4 (weighS zs 15 s)) sz (belS 4 (weighS zs 15 s)))) := by
  refine opq fun R HR => ?_
  have HW := Lib.hid (fun wz hd hi => rdweigh_any D s (some ⟨A, 0, none⟩) 15 15 zs wz hd hs (by omega) hi)
  have hu := weighS_u zs 15 s hs
  rw [hw] at HW
  generalize weighS zs 15 s = t at *
  have H := Lib.hid h
  have HI := Lib.hid hi
  have hDlt := h.lt
  have hu4 := belS_u 4 t hu
  have hb4 := belV_bd 4 t
  have H4 := Lib.hid (fun wz (hd : DS wz D t) => rdbelow_any D t 4 wz hd hu (by omega))
  generalize belV 4 t = v4 at *
  generalize belS 4 t = t4 at *
  have e4 : IntKind.i64.wrap (1 + v4) = 1 + v4 := IntWalk.i64_in _ (by omega)
  clear h hi hw
  unfold ordO volO at HR
  try dsimp only at HR
  have hb5 := belV_bd (5) t4
  have hu5 := belS_u (5) t4 hu4
  have HC0 := Lib.hid (fun wz (hd : DS wz D t4) => rdbelow_any D t4 (5) wz hd hu4 (by omega))
  generalize belV (5) t4 = v5 at *
  generalize belS (5) t4 = t5 at *
  have e5 : IntKind.i64.wrap (1 + v5) = 1 + v5 := IntWalk.i64_in _ (by omega)
  go_enter Try.func9, Try.ntmps9
  go_wp2_with fail
  refine (HW.out _ (H.out.alloc _) (fun q => let ⟨b, o, h1, h2, h3, h4⟩ := HI.out q; ⟨b, o, h1, by simp; omega, h3, fun i hi => by rw [World.cell?_alloc_lt _ _ _ h2]; exact h4 i hi⟩)).mono ?_
  have B0 := Lib.hid (Blk.new w #[.int .i64 0, .slice none 0 0, .slice none 0 0] 45)
  have M0 := Lib.hid ((Mod.refl (fun i => i = D) w).alloc (.cells #[.int .i64 0, .slice none 0 0, .slice none 0 0] 45))
  have hZ0 : w.heap.size ≠ D := by omega
  have hG0 : w.heap.size ≤ w.heap.size := Nat.le_refl _
  generalize w.alloc _ = W at *
  generalize hzz : w.heap.size = Z0 at hG0 hZ0 B0 ⊢
  rintro e w1 ⟨rfl, hd, hM⟩
  have M1 := Lib.hid (M0.out.trans hM)
  have B01 := Lib.hid (B0.out.mod hM hZ0)
  have D1 := Lib.hid hd
  clear hd hM B0 M0 HW
  go_wp2_with fail
  refine (H4.out _ (D1.out.alloc _)).mono ?_
  have hZ1D : w1.heap.size ≠ D := by have := D1.out.lt; omega
  have hZ01 : Z0 ≠ w1.heap.size := by have := B01.out.lt; omega
  have hG1 : w.heap.size ≤ w1.heap.size := M1.out.size
  have B02 := Lib.hid (B01.out.alloc (.cells #[.int .i64 3, .slice none 0 0, .slice none 0 0] 45))
  have B12 := Lib.hid (Blk.new w1 #[.int .i64 3, .slice none 0 0, .slice none 0 0] 45)
  have M2 := Lib.hid (M1.out.alloc (.cells #[.int .i64 3, .slice none 0 0, .slice none 0 0] 45))
  generalize w1.alloc _ = W1 at *
  generalize w1.heap.size = Z1 at *
  rintro e w2 ⟨rfl, hd, hM⟩
  have M3 := Lib.hid (M2.out.trans hM)
  have B03 := Lib.hid (B02.out.mod hM hZ0)
  have B13 := Lib.hid (B12.out.mod hM hZ1D)
  have D3 := Lib.hid hd
  clear hd hM B02 B12 M2 H4 D1 M1 B01 HI H
  have k0 := B13.out.at_ (i := 0) (.int .i64 3) rfl
  go_wp2_with fail
  refine (HC0.out _ D3.out).mono ?_
  rintro e w3 ⟨rfl, hd, hM⟩
  have M3q := Lib.hid (M3.out.trans hM)
  have B03q := Lib.hid (B03.out.mod hM hZ0)
  have B13q := Lib.hid (B13.out.mod hM hZ1D)
  have D3q := Lib.hid hd
  clear hd hM B03 B13 M3 D3 k0 HC0
  have M3 := M3q
  have B03 := B03q
  have B13 := B13q
  have D3 := D3q
  clear M3q B03q B13q D3q
  have hc0 := B03.out.cell
  have hf0 := B03.out.free
  have hl0 := B03.out.lt
  have hc1 := B13.out.cell
  have hf1 := B13.out.free
  have hl1 := B13.out.lt
  go_wp2_with fail
  have hgD : w.heap.size ≤ w3.heap.size := M3.out.size
  obtain ⟨Wz, he, c0, c1, c2, hB, hDD, hMM⟩ := nxt_fin M3.out D3.out B03.out B13.out hZ0 hZ1D hZ01 (by omega) (by omega) (.slice (some ⟨w3.heap.size, 0, none⟩) 2 2) (.int .i64 3) (.slice (some ⟨w3.heap.size, 0, none⟩) 2 2) (.slice none 0 0) #[.int .i64 (1 + v4), .int .i64 (1 + v5)] 3
  rw [he]
  have HB := Lib.hid hB
  have HD := Lib.hid hDD
  have HM := Lib.hid hMM
  clear he hB hDD hMM hc0 hf0 hc1 hf1
  exact bodyPost_ret (v := .tuple #[.agg #[.int .i64 3, .slice (some ⟨w3.heap.size, 0, none⟩) 2 2, .slice none 0 0], .bool true]) (by simp [results, Try.results9, go_sem, c0, c1, c2]) rfl (HR.out _ _ ⟨_, rfl, ⟨_, _, _, _, rfl, FarRow.blk HB.out hgD, FarRow.nil _ _ _⟩, HD.out, HM.out⟩)
set_option maxRecDepth 10000 in
set_option maxHeartbeats 4000000 in
theorem next3 (D A : Nat) (zs : Nat → Int) (sz s : Int) (w : World) (h : DS w D s) (hs : U64 s) (hi : IntsAt w D (some ⟨A, 0, none⟩) 15 zs) (hw : weighV zs 15 s = 3) (hz : 1 ≤ sz ∧ sz ≤ 8) :
    Calls Try.prog 9 #[dptr D, .slice (some ⟨A, 0, none⟩) 15 15, .int .i64 sz] w (NextX w D (ordO 3 (1 + belV 4 (weighS zs 15 s)) sz (belS 4 (weighS zs 15 s)))) := by
  refine opq fun R HR => ?_
  have HW := Lib.hid (fun wz hd hi => rdweigh_any D s (some ⟨A, 0, none⟩) 15 15 zs wz hd hs (by omega) hi)
  have hu := weighS_u zs 15 s hs
  rw [hw] at HW
  generalize weighS zs 15 s = t at *
  have H := Lib.hid h
  have HI := Lib.hid hi
  have hDlt := h.lt
  have hu4 := belS_u 4 t hu
  have hb4 := belV_bd 4 t
  have H4 := Lib.hid (fun wz (hd : DS wz D t) => rdbelow_any D t 4 wz hd hu (by omega))
  generalize belV 4 t = v4 at *
  generalize belS 4 t = t4 at *
  have e4 : IntKind.i64.wrap (1 + v4) = 1 + v4 := IntWalk.i64_in _ (by omega)
  clear h hi hw
  unfold ordO volO at HR
  try dsimp only at HR
  have hb5 := belV_bd (10) t4
  have hu5 := belS_u (10) t4 hu4
  have HC0 := Lib.hid (fun wz (hd : DS wz D t4) => rdbelow_any D t4 (10) wz hd hu4 (by omega))
  generalize belV (10) t4 = v5 at *
  generalize belS (10) t4 = t5 at *
  have e5 : IntKind.i64.wrap (1 + v5) = 1 + v5 := IntWalk.i64_in _ (by omega)
  go_enter Try.func9, Try.ntmps9
  go_wp2_with fail
  refine (HW.out _ (H.out.alloc _) (fun q => let ⟨b, o, h1, h2, h3, h4⟩ := HI.out q; ⟨b, o, h1, by simp; omega, h3, fun i hi => by rw [World.cell?_alloc_lt _ _ _ h2]; exact h4 i hi⟩)).mono ?_
  have B0 := Lib.hid (Blk.new w #[.int .i64 0, .slice none 0 0, .slice none 0 0] 45)
  have M0 := Lib.hid ((Mod.refl (fun i => i = D) w).alloc (.cells #[.int .i64 0, .slice none 0 0, .slice none 0 0] 45))
  have hZ0 : w.heap.size ≠ D := by omega
  have hG0 : w.heap.size ≤ w.heap.size := Nat.le_refl _
  generalize w.alloc _ = W at *
  generalize hzz : w.heap.size = Z0 at hG0 hZ0 B0 ⊢
  rintro e w1 ⟨rfl, hd, hM⟩
  have M1 := Lib.hid (M0.out.trans hM)
  have B01 := Lib.hid (B0.out.mod hM hZ0)
  have D1 := Lib.hid hd
  clear hd hM B0 M0 HW
  go_wp2_with fail
  refine (H4.out _ (D1.out.alloc _)).mono ?_
  have hZ1D : w1.heap.size ≠ D := by have := D1.out.lt; omega
  have hZ01 : Z0 ≠ w1.heap.size := by have := B01.out.lt; omega
  have hG1 : w.heap.size ≤ w1.heap.size := M1.out.size
  have B02 := Lib.hid (B01.out.alloc (.cells #[.int .i64 4, .slice none 0 0, .slice none 0 0] 45))
  have B12 := Lib.hid (Blk.new w1 #[.int .i64 4, .slice none 0 0, .slice none 0 0] 45)
  have M2 := Lib.hid (M1.out.alloc (.cells #[.int .i64 4, .slice none 0 0, .slice none 0 0] 45))
  generalize w1.alloc _ = W1 at *
  generalize w1.heap.size = Z1 at *
  rintro e w2 ⟨rfl, hd, hM⟩
  have M3 := Lib.hid (M2.out.trans hM)
  have B03 := Lib.hid (B02.out.mod hM hZ0)
  have B13 := Lib.hid (B12.out.mod hM hZ1D)
  have D3 := Lib.hid hd
  clear hd hM B02 B12 M2 H4 D1 M1 B01 HI H
  have k0 := B13.out.at_ (i := 0) (.int .i64 4) rfl
  go_wp2_with fail
  refine (HC0.out _ D3.out).mono ?_
  rintro e w3 ⟨rfl, hd, hM⟩
  have M3q := Lib.hid (M3.out.trans hM)
  have B03q := Lib.hid (B03.out.mod hM hZ0)
  have B13q := Lib.hid (B13.out.mod hM hZ1D)
  have D3q := Lib.hid hd
  clear hd hM B03 B13 M3 D3 k0 HC0
  have M3 := M3q
  have B03 := B03q
  have B13 := B13q
  have D3 := D3q
  clear M3q B03q B13q D3q
  have hc0 := B03.out.cell
  have hf0 := B03.out.free
  have hl0 := B03.out.lt
  have hc1 := B13.out.cell
  have hf1 := B13.out.free
  have hl1 := B13.out.lt
  go_wp2_with fail
  have hgD : w.heap.size ≤ w3.heap.size := M3.out.size
  obtain ⟨Wz, he, c0, c1, c2, hB, hDD, hMM⟩ := nxt_fin M3.out D3.out B03.out B13.out hZ0 hZ1D hZ01 (by omega) (by omega) (.slice (some ⟨w3.heap.size, 0, none⟩) 2 2) (.int .i64 4) (.slice (some ⟨w3.heap.size, 0, none⟩) 2 2) (.slice none 0 0) #[.int .i64 (1 + v4), .int .i64 (v5)] 3
  rw [he]
  have HB := Lib.hid hB
  have HD := Lib.hid hDD
  have HM := Lib.hid hMM
  clear he hB hDD hMM hc0 hf0 hc1 hf1
  exact bodyPost_ret (v := .tuple #[.agg #[.int .i64 4, .slice (some ⟨w3.heap.size, 0, none⟩) 2 2, .slice none 0 0], .bool true]) (by simp [results, Try.results9, go_sem, c0, c1, c2]) rfl (HR.out _ _ ⟨_, rfl, ⟨_, _, _, _, rfl, FarRow.blk HB.out hgD, FarRow.nil _ _ _⟩, HD.out, HM.out⟩)
set_option maxRecDepth 10000 in
set_option maxHeartbeats 4000000 in
theorem next4 (D A : Nat) (zs : Nat → Int) (sz s : Int) (w : World) (h : DS w D s) (hs : U64 s) (hi : IntsAt w D (some ⟨A, 0, none⟩) 15 zs) (hw : weighV zs 15 s = 4) (hz : 1 ≤ sz ∧ sz ≤ 8) :
    Calls Try.prog 9 #[dptr D, .slice (some ⟨A, 0, none⟩) 15 15, .int .i64 sz] w (NextX w D (ordO 4 (1 + belV 4 (weighS zs 15 s)) sz (belS 4 (weighS zs 15 s)))) := by
  refine opq fun R HR => ?_
  have HW := Lib.hid (fun wz hd hi => rdweigh_any D s (some ⟨A, 0, none⟩) 15 15 zs wz hd hs (by omega) hi)
  have hu := weighS_u zs 15 s hs
  rw [hw] at HW
  generalize weighS zs 15 s = t at *
  have H := Lib.hid h
  have HI := Lib.hid hi
  have hDlt := h.lt
  have hu4 := belS_u 4 t hu
  have hb4 := belV_bd 4 t
  have H4 := Lib.hid (fun wz (hd : DS wz D t) => rdbelow_any D t 4 wz hd hu (by omega))
  generalize belV 4 t = v4 at *
  generalize belS 4 t = t4 at *
  have e4 : IntKind.i64.wrap (1 + v4) = 1 + v4 := IntWalk.i64_in _ (by omega)
  clear h hi hw
  go_enter Try.func9, Try.ntmps9
  go_wp2_with fail
  refine (HW.out _ (H.out.alloc _) (fun q => let ⟨b, o, h1, h2, h3, h4⟩ := HI.out q; ⟨b, o, h1, by simp; omega, h3, fun i hi => by rw [World.cell?_alloc_lt _ _ _ h2]; exact h4 i hi⟩)).mono ?_
  have B0 := Lib.hid (Blk.new w #[.int .i64 0, .slice none 0 0, .slice none 0 0] 45)
  have M0 := Lib.hid ((Mod.refl (fun i => i = D) w).alloc (.cells #[.int .i64 0, .slice none 0 0, .slice none 0 0] 45))
  have hZ0 : w.heap.size ≠ D := by omega
  have hG0 : w.heap.size ≤ w.heap.size := Nat.le_refl _
  generalize w.alloc _ = W at *
  generalize hzz : w.heap.size = Z0 at hG0 hZ0 B0 ⊢
  rintro e w1 ⟨rfl, hd, hM⟩
  have M1 := Lib.hid (M0.out.trans hM)
  have B01 := Lib.hid (B0.out.mod hM hZ0)
  have D1 := Lib.hid hd
  clear hd hM B0 M0 HW
  go_wp2_with fail
  refine (H4.out _ (D1.out.alloc _)).mono ?_
  have hZ1D : w1.heap.size ≠ D := by have := D1.out.lt; omega
  have hZ01 : Z0 ≠ w1.heap.size := by have := B01.out.lt; omega
  have hG1 : w.heap.size ≤ w1.heap.size := M1.out.size
  have B02 := Lib.hid (B01.out.alloc (.cells #[.int .i64 5, .slice none 0 0, .slice none 0 0] 45))
  have B12 := Lib.hid (Blk.new w1 #[.int .i64 5, .slice none 0 0, .slice none 0 0] 45)
  have M2 := Lib.hid (M1.out.alloc (.cells #[.int .i64 5, .slice none 0 0, .slice none 0 0] 45))
  generalize w1.alloc _ = W1 at *
  generalize w1.heap.size = Z1 at *
  rintro e w2 ⟨rfl, hd, hM⟩
  have M3 := Lib.hid (M2.out.trans hM)
  have B03 := Lib.hid (B02.out.mod hM hZ0)
  have B13 := Lib.hid (B12.out.mod hM hZ1D)
  have D3 := Lib.hid hd
  clear hd hM B02 B12 M2 H4 D1 M1 B01 HI H
  have hc0 := B03.out.cell
  have hf0 := B03.out.free
  have hl0 := B03.out.lt
  have hc1 := B13.out.cell
  have hf1 := B13.out.free
  have hl1 := B13.out.lt
  go_wp2_with fail
  have hgD : w.heap.size ≤ w2.heap.size := M3.out.size
  obtain ⟨Wz, he, c0, c1, c2, hB, hDD, hMM⟩ := nxt_fin M3.out D3.out B03.out B13.out hZ0 hZ1D hZ01 (by omega) (by omega) (.slice (some ⟨w2.heap.size, 0, none⟩) 1 1) (.int .i64 5) (.slice (some ⟨w2.heap.size, 0, none⟩) 1 1) (.slice none 0 0) #[.int .i64 (1 + v4)] 3
  rw [he]
  have HB := Lib.hid hB
  have HD := Lib.hid hDD
  have HM := Lib.hid hMM
  clear he hB hDD hMM hc0 hf0 hc1 hf1
  exact bodyPost_ret (v := .tuple #[.agg #[.int .i64 5, .slice (some ⟨w2.heap.size, 0, none⟩) 1 1, .slice none 0 0], .bool true]) (by simp [results, Try.results9, go_sem, c0, c1, c2]) rfl (HR.out _ _ ⟨_, rfl, ⟨_, _, _, _, rfl, FarRow.blk HB.out hgD, FarRow.nil _ _ _⟩, HD.out, HM.out⟩)
set_option maxRecDepth 10000 in
set_option maxHeartbeats 4000000 in
theorem next5 (D A : Nat) (zs : Nat → Int) (sz s : Int) (w : World) (h : DS w D s) (hs : U64 s) (hi : IntsAt w D (some ⟨A, 0, none⟩) 15 zs) (hw : weighV zs 15 s = 5) (hz : 1 ≤ sz ∧ sz ≤ 8) :
    Calls Try.prog 9 #[dptr D, .slice (some ⟨A, 0, none⟩) 15 15, .int .i64 sz] w (NextX w D (ordO 5 (1 + belV 4 (weighS zs 15 s)) sz (belS 4 (weighS zs 15 s)))) := by
  refine opq fun R HR => ?_
  have HW := Lib.hid (fun wz hd hi => rdweigh_any D s (some ⟨A, 0, none⟩) 15 15 zs wz hd hs (by omega) hi)
  have hu := weighS_u zs 15 s hs
  rw [hw] at HW
  generalize weighS zs 15 s = t at *
  have H := Lib.hid h
  have HI := Lib.hid hi
  have hDlt := h.lt
  have hu4 := belS_u 4 t hu
  have hb4 := belV_bd 4 t
  have H4 := Lib.hid (fun wz (hd : DS wz D t) => rdbelow_any D t 4 wz hd hu (by omega))
  generalize belV 4 t = v4 at *
  generalize belS 4 t = t4 at *
  have e4 : IntKind.i64.wrap (1 + v4) = 1 + v4 := IntWalk.i64_in _ (by omega)
  clear h hi hw
  go_enter Try.func9, Try.ntmps9
  go_wp2_with fail
  refine (HW.out _ (H.out.alloc _) (fun q => let ⟨b, o, h1, h2, h3, h4⟩ := HI.out q; ⟨b, o, h1, by simp; omega, h3, fun i hi => by rw [World.cell?_alloc_lt _ _ _ h2]; exact h4 i hi⟩)).mono ?_
  have B0 := Lib.hid (Blk.new w #[.int .i64 0, .slice none 0 0, .slice none 0 0] 45)
  have M0 := Lib.hid ((Mod.refl (fun i => i = D) w).alloc (.cells #[.int .i64 0, .slice none 0 0, .slice none 0 0] 45))
  have hZ0 : w.heap.size ≠ D := by omega
  have hG0 : w.heap.size ≤ w.heap.size := Nat.le_refl _
  generalize w.alloc _ = W at *
  generalize hzz : w.heap.size = Z0 at hG0 hZ0 B0 ⊢
  rintro e w1 ⟨rfl, hd, hM⟩
  have M1 := Lib.hid (M0.out.trans hM)
  have B01 := Lib.hid (B0.out.mod hM hZ0)
  have D1 := Lib.hid hd
  clear hd hM B0 M0 HW
  go_wp2_with fail
  refine (H4.out _ (D1.out.alloc _)).mono ?_
  have hZ1D : w1.heap.size ≠ D := by have := D1.out.lt; omega
  have hZ01 : Z0 ≠ w1.heap.size := by have := B01.out.lt; omega
  have hG1 : w.heap.size ≤ w1.heap.size := M1.out.size
  have B02 := Lib.hid (B01.out.alloc (.cells #[.int .i64 6, .slice none 0 0, .slice none 0 0] 45))
  have B12 := Lib.hid (Blk.new w1 #[.int .i64 6, .slice none 0 0, .slice none 0 0] 45)
  have M2 := Lib.hid (M1.out.alloc (.cells #[.int .i64 6, .slice none 0 0, .slice none 0 0] 45))
  generalize w1.alloc _ = W1 at *
  generalize w1.heap.size = Z1 at *
  rintro e w2 ⟨rfl, hd, hM⟩
  have M3 := Lib.hid (M2.out.trans hM)
  have B03 := Lib.hid (B02.out.mod hM hZ0)
  have B13 := Lib.hid (B12.out.mod hM hZ1D)
  have D3 := Lib.hid hd
  clear hd hM B02 B12 M2 H4 D1 M1 B01 HI H
  have hc0 := B03.out.cell
  have hf0 := B03.out.free
  have hl0 := B03.out.lt
  have hc1 := B13.out.cell
  have hf1 := B13.out.free
  have hl1 := B13.out.lt
  go_wp2_with fail
  have hgD : w.heap.size ≤ w2.heap.size := M3.out.size
  obtain ⟨Wz, he, c0, c1, c2, hB, hDD, hMM⟩ := nxt_fin M3.out D3.out B03.out B13.out hZ0 hZ1D hZ01 (by omega) (by omega) (.slice (some ⟨w2.heap.size, 0, none⟩) 1 1) (.int .i64 6) (.slice (some ⟨w2.heap.size, 0, none⟩) 1 1) (.slice none 0 0) #[.int .i64 (1 + v4)] 3
  rw [he]
  have HB := Lib.hid hB
  have HD := Lib.hid hDD
  have HM := Lib.hid hMM
  clear he hB hDD hMM hc0 hf0 hc1 hf1
  exact bodyPost_ret (v := .tuple #[.agg #[.int .i64 6, .slice (some ⟨w2.heap.size, 0, none⟩) 1 1, .slice none 0 0], .bool true]) (by simp [results, Try.results9, go_sem, c0, c1, c2]) rfl (HR.out _ _ ⟨_, rfl, ⟨_, _, _, _, rfl, FarRow.blk HB.out hgD, FarRow.nil _ _ _⟩, HD.out, HM.out⟩)
set_option maxRecDepth 10000 in
set_option maxHeartbeats 4000000 in
theorem next6 (D A : Nat) (zs : Nat → Int) (sz s : Int) (w : World) (h : DS w D s) (hs : U64 s) (hi : IntsAt w D (some ⟨A, 0, none⟩) 15 zs) (hw : weighV zs 15 s = 6) (hz : 1 ≤ sz ∧ sz ≤ 8) :
    Calls Try.prog 9 #[dptr D, .slice (some ⟨A, 0, none⟩) 15 15, .int .i64 sz] w (NextX w D (ordO 6 (1 + belV 4 (weighS zs 15 s)) sz (belS 4 (weighS zs 15 s)))) := by
  refine opq fun R HR => ?_
  have HW := Lib.hid (fun wz hd hi => rdweigh_any D s (some ⟨A, 0, none⟩) 15 15 zs wz hd hs (by omega) hi)
  have hu := weighS_u zs 15 s hs
  rw [hw] at HW
  generalize weighS zs 15 s = t at *
  have H := Lib.hid h
  have HI := Lib.hid hi
  have hDlt := h.lt
  have hu4 := belS_u 4 t hu
  have hb4 := belV_bd 4 t
  have H4 := Lib.hid (fun wz (hd : DS wz D t) => rdbelow_any D t 4 wz hd hu (by omega))
  generalize belV 4 t = v4 at *
  generalize belS 4 t = t4 at *
  have e4 : IntKind.i64.wrap (1 + v4) = 1 + v4 := IntWalk.i64_in _ (by omega)
  clear h hi hw
  unfold ordO rangeO at HR
  try dsimp only at HR
  have hb5 := belV_bd (8 * sz) t4
  have hu5 := belS_u (8 * sz) t4 hu4
  have HC0 := Lib.hid (fun wz (hd : DS wz D t4) => rdbelow_any D t4 (8 * sz) wz hd hu4 (by omega))
  generalize belV (8 * sz) t4 = v5 at *
  generalize belS (8 * sz) t4 = t5 at *
  have e5 : IntKind.i64.wrap (1 + v5) = 1 + v5 := IntWalk.i64_in _ (by omega)
  have f0 : IntKind.i64.wrap (8 * sz) = 8 * sz := IntWalk.i64_in _ (by omega)
  have hb6 := belV_bd (2 * sz) t5
  have hu6 := belS_u (2 * sz) t5 hu5
  have HC1 := Lib.hid (fun wz (hd : DS wz D t5) => rdbelow_any D t5 (2 * sz) wz hd hu5 (by omega))
  generalize belV (2 * sz) t5 = v6 at *
  generalize belS (2 * sz) t5 = t6 at *
  have e6 : IntKind.i64.wrap (1 + v6) = 1 + v6 := IntWalk.i64_in _ (by omega)
  have f1 : IntKind.i64.wrap (2 * sz) = 2 * sz := IntWalk.i64_in _ (by omega)
  go_enter Try.func9, Try.ntmps9
  go_wp2_with fail
  refine (HW.out _ (H.out.alloc _) (fun q => let ⟨b, o, h1, h2, h3, h4⟩ := HI.out q; ⟨b, o, h1, by simp; omega, h3, fun i hi => by rw [World.cell?_alloc_lt _ _ _ h2]; exact h4 i hi⟩)).mono ?_
  have B0 := Lib.hid (Blk.new w #[.int .i64 0, .slice none 0 0, .slice none 0 0] 45)
  have M0 := Lib.hid ((Mod.refl (fun i => i = D) w).alloc (.cells #[.int .i64 0, .slice none 0 0, .slice none 0 0] 45))
  have hZ0 : w.heap.size ≠ D := by omega
  have hG0 : w.heap.size ≤ w.heap.size := Nat.le_refl _
  generalize w.alloc _ = W at *
  generalize hzz : w.heap.size = Z0 at hG0 hZ0 B0 ⊢
  rintro e w1 ⟨rfl, hd, hM⟩
  have M1 := Lib.hid (M0.out.trans hM)
  have B01 := Lib.hid (B0.out.mod hM hZ0)
  have D1 := Lib.hid hd
  clear hd hM B0 M0 HW
  go_wp2_with fail
  refine (H4.out _ (D1.out.alloc _)).mono ?_
  have hZ1D : w1.heap.size ≠ D := by have := D1.out.lt; omega
  have hZ01 : Z0 ≠ w1.heap.size := by have := B01.out.lt; omega
  have hG1 : w.heap.size ≤ w1.heap.size := M1.out.size
  have B02 := Lib.hid (B01.out.alloc (.cells #[.int .i64 7, .slice none 0 0, .slice none 0 0] 45))
  have B12 := Lib.hid (Blk.new w1 #[.int .i64 7, .slice none 0 0, .slice none 0 0] 45)
  have M2 := Lib.hid (M1.out.alloc (.cells #[.int .i64 7, .slice none 0 0, .slice none 0 0] 45))
  generalize w1.alloc _ = W1 at *
  generalize w1.heap.size = Z1 at *
  rintro e w2 ⟨rfl, hd, hM⟩
  have M3 := Lib.hid (M2.out.trans hM)
  have B03 := Lib.hid (B02.out.mod hM hZ0)
  have B13 := Lib.hid (B12.out.mod hM hZ1D)
  have D3 := Lib.hid hd
  clear hd hM B02 B12 M2 H4 D1 M1 B01 HI H
  have k0 := B13.out.at_ (i := 0) (.int .i64 7) rfl
  go_wp2_with fail
  refine (HC0.out _ D3.out).mono ?_
  rintro e w3 ⟨rfl, hd, hM⟩
  have M3q := Lib.hid (M3.out.trans hM)
  have B03q := Lib.hid (B03.out.mod hM hZ0)
  have B13q := Lib.hid (B13.out.mod hM hZ1D)
  have D3q := Lib.hid hd
  clear hd hM B03 B13 M3 D3 k0 HC0
  have M3 := M3q
  have B03 := B03q
  have B13 := B13q
  have D3 := D3q
  clear M3q B03q B13q D3q
  have k1 := B13.out.at_ (i := 0) (.int .i64 7) rfl
  go_wp2_with fail
  refine (HC1.out _ D3.out).mono ?_
  rintro e w4 ⟨rfl, hd, hM⟩
  have M3q := Lib.hid (M3.out.trans hM)
  have B03q := Lib.hid (B03.out.mod hM hZ0)
  have B13q := Lib.hid (B13.out.mod hM hZ1D)
  have D3q := Lib.hid hd
  clear hd hM B03 B13 M3 D3 k1 HC1
  have M3 := M3q
  have B03 := B03q
  have B13 := B13q
  have D3 := D3q
  clear M3q B03q B13q D3q
  have hc0 := B03.out.cell
  have hf0 := B03.out.free
  have hl0 := B03.out.lt
  have hc1 := B13.out.cell
  have hf1 := B13.out.free
  have hl1 := B13.out.lt
  go_wp2_with fail
  have hgD : w.heap.size ≤ w4.heap.size := M3.out.size
  obtain ⟨Wz, he, c0, c1, c2, hB, hDD, hMM⟩ := nxt_fin M3.out D3.out B03.out B13.out hZ0 hZ1D hZ01 (by omega) (by omega) (.slice (some ⟨w4.heap.size, 0, none⟩) 3 3) (.int .i64 7) (.slice (some ⟨w4.heap.size, 0, none⟩) 3 3) (.slice none 0 0) #[.int .i64 (1 + v4), .int .i64 (v5), .int .i64 (1 + v6)] 3
  rw [he]
  have HB := Lib.hid hB
  have HD := Lib.hid hDD
  have HM := Lib.hid hMM
  clear he hB hDD hMM hc0 hf0 hc1 hf1
  exact bodyPost_ret (v := .tuple #[.agg #[.int .i64 7, .slice (some ⟨w4.heap.size, 0, none⟩) 3 3, .slice none 0 0], .bool true]) (by simp [results, Try.results9, go_sem, c0, c1, c2]) rfl (HR.out _ _ ⟨_, rfl, ⟨_, _, _, _, rfl, FarRow.blk HB.out hgD, FarRow.nil _ _ _⟩, HD.out, HM.out⟩)
set_option maxRecDepth 10000 in
set_option maxHeartbeats 4000000 in
theorem next8 (D A : Nat) (zs : Nat → Int) (sz s : Int) (w : World) (h : DS w D s) (hs : U64 s) (hi : IntsAt w D (some ⟨A, 0, none⟩) 15 zs) (hw : weighV zs 15 s = 8) (hz : 1 ≤ sz ∧ sz ≤ 8) :
    Calls Try.prog 9 #[dptr D, .slice (some ⟨A, 0, none⟩) 15 15, .int .i64 sz] w (NextX w D (ordO 8 (1 + belV 4 (weighS zs 15 s)) sz (belS 4 (weighS zs 15 s)))) := by
  refine opq fun R HR => ?_
  have HW := Lib.hid (fun wz hd hi => rdweigh_any D s (some ⟨A, 0, none⟩) 15 15 zs wz hd hs (by omega) hi)
  have hu := weighS_u zs 15 s hs
  rw [hw] at HW
  generalize weighS zs 15 s = t at *
  have H := Lib.hid h
  have HI := Lib.hid hi
  have hDlt := h.lt
  have hu4 := belS_u 4 t hu
  have hb4 := belV_bd 4 t
  have H4 := Lib.hid (fun wz (hd : DS wz D t) => rdbelow_any D t 4 wz hd hu (by omega))
  generalize belV 4 t = v4 at *
  generalize belS 4 t = t4 at *
  have e4 : IntKind.i64.wrap (1 + v4) = 1 + v4 := IntWalk.i64_in _ (by omega)
  clear h hi hw
  unfold ordO rangeO at HR
  try dsimp only at HR
  have hb5 := belV_bd (8 * sz) t4
  have hu5 := belS_u (8 * sz) t4 hu4
  have HC0 := Lib.hid (fun wz (hd : DS wz D t4) => rdbelow_any D t4 (8 * sz) wz hd hu4 (by omega))
  generalize belV (8 * sz) t4 = v5 at *
  generalize belS (8 * sz) t4 = t5 at *
  have e5 : IntKind.i64.wrap (1 + v5) = 1 + v5 := IntWalk.i64_in _ (by omega)
  have f0 : IntKind.i64.wrap (8 * sz) = 8 * sz := IntWalk.i64_in _ (by omega)
  have hb6 := belV_bd (2 * sz) t5
  have hu6 := belS_u (2 * sz) t5 hu5
  have HC1 := Lib.hid (fun wz (hd : DS wz D t5) => rdbelow_any D t5 (2 * sz) wz hd hu5 (by omega))
  generalize belV (2 * sz) t5 = v6 at *
  generalize belS (2 * sz) t5 = t6 at *
  have e6 : IntKind.i64.wrap (1 + v6) = 1 + v6 := IntWalk.i64_in _ (by omega)
  have f1 : IntKind.i64.wrap (2 * sz) = 2 * sz := IntWalk.i64_in _ (by omega)
  go_enter Try.func9, Try.ntmps9
  go_wp2_with fail
  refine (HW.out _ (H.out.alloc _) (fun q => let ⟨b, o, h1, h2, h3, h4⟩ := HI.out q; ⟨b, o, h1, by simp; omega, h3, fun i hi => by rw [World.cell?_alloc_lt _ _ _ h2]; exact h4 i hi⟩)).mono ?_
  have B0 := Lib.hid (Blk.new w #[.int .i64 0, .slice none 0 0, .slice none 0 0] 45)
  have M0 := Lib.hid ((Mod.refl (fun i => i = D) w).alloc (.cells #[.int .i64 0, .slice none 0 0, .slice none 0 0] 45))
  have hZ0 : w.heap.size ≠ D := by omega
  have hG0 : w.heap.size ≤ w.heap.size := Nat.le_refl _
  generalize w.alloc _ = W at *
  generalize hzz : w.heap.size = Z0 at hG0 hZ0 B0 ⊢
  rintro e w1 ⟨rfl, hd, hM⟩
  have M1 := Lib.hid (M0.out.trans hM)
  have B01 := Lib.hid (B0.out.mod hM hZ0)
  have D1 := Lib.hid hd
  clear hd hM B0 M0 HW
  go_wp2_with fail
  refine (H4.out _ (D1.out.alloc _)).mono ?_
  have hZ1D : w1.heap.size ≠ D := by have := D1.out.lt; omega
  have hZ01 : Z0 ≠ w1.heap.size := by have := B01.out.lt; omega
  have hG1 : w.heap.size ≤ w1.heap.size := M1.out.size
  have B02 := Lib.hid (B01.out.alloc (.cells #[.int .i64 9, .slice none 0 0, .slice none 0 0] 45))
  have B12 := Lib.hid (Blk.new w1 #[.int .i64 9, .slice none 0 0, .slice none 0 0] 45)
  have M2 := Lib.hid (M1.out.alloc (.cells #[.int .i64 9, .slice none 0 0, .slice none 0 0] 45))
  generalize w1.alloc _ = W1 at *
  generalize w1.heap.size = Z1 at *
  rintro e w2 ⟨rfl, hd, hM⟩
  have M3 := Lib.hid (M2.out.trans hM)
  have B03 := Lib.hid (B02.out.mod hM hZ0)
  have B13 := Lib.hid (B12.out.mod hM hZ1D)
  have D3 := Lib.hid hd
  clear hd hM B02 B12 M2 H4 D1 M1 B01 HI H
  have k0 := B13.out.at_ (i := 0) (.int .i64 9) rfl
  go_wp2_with fail
  refine (HC0.out _ D3.out).mono ?_
  rintro e w3 ⟨rfl, hd, hM⟩
  have M3q := Lib.hid (M3.out.trans hM)
  have B03q := Lib.hid (B03.out.mod hM hZ0)
  have B13q := Lib.hid (B13.out.mod hM hZ1D)
  have D3q := Lib.hid hd
  clear hd hM B03 B13 M3 D3 k0 HC0
  have M3 := M3q
  have B03 := B03q
  have B13 := B13q
  have D3 := D3q
  clear M3q B03q B13q D3q
  have k1 := B13.out.at_ (i := 0) (.int .i64 9) rfl
  go_wp2_with fail
  refine (HC1.out _ D3.out).mono ?_
  rintro e w4 ⟨rfl, hd, hM⟩
  have M3q := Lib.hid (M3.out.trans hM)
  have B03q := Lib.hid (B03.out.mod hM hZ0)
  have B13q := Lib.hid (B13.out.mod hM hZ1D)
  have D3q := Lib.hid hd
  clear hd hM B03 B13 M3 D3 k1 HC1
  have M3 := M3q
  have B03 := B03q
  have B13 := B13q
  have D3 := D3q
  clear M3q B03q B13q D3q
  have hc0 := B03.out.cell
  have hf0 := B03.out.free
  have hl0 := B03.out.lt
  have hc1 := B13.out.cell
  have hf1 := B13.out.free
  have hl1 := B13.out.lt
  go_wp2_with fail
  have hgD : w.heap.size ≤ w4.heap.size := M3.out.size
  obtain ⟨Wz, he, c0, c1, c2, hB, hDD, hMM⟩ := nxt_fin M3.out D3.out B03.out B13.out hZ0 hZ1D hZ01 (by omega) (by omega) (.slice (some ⟨w4.heap.size, 0, none⟩) 3 3) (.int .i64 9) (.slice (some ⟨w4.heap.size, 0, none⟩) 3 3) (.slice none 0 0) #[.int .i64 (1 + v4), .int .i64 (v5), .int .i64 (1 + v6)] 3
  rw [he]
  have HB := Lib.hid hB
  have HD := Lib.hid hDD
  have HM := Lib.hid hMM
  clear he hB hDD hMM hc0 hf0 hc1 hf1
  exact bodyPost_ret (v := .tuple #[.agg #[.int .i64 9, .slice (some ⟨w4.heap.size, 0, none⟩) 3 3, .slice none 0 0], .bool true]) (by simp [results, Try.results9, go_sem, c0, c1, c2]) rfl (HR.out _ _ ⟨_, rfl, ⟨_, _, _, _, rfl, FarRow.blk HB.out hgD, FarRow.nil _ _ _⟩, HD.out, HM.out⟩)
set_option maxRecDepth 10000 in
set_option maxHeartbeats 4000000 in
theorem next10 (D A : Nat) (zs : Nat → Int) (sz s : Int) (w : World) (h : DS w D s) (hs : U64 s) (hi : IntsAt w D (some ⟨A, 0, none⟩) 15 zs) (hw : weighV zs 15 s = 10) (hz : 1 ≤ sz ∧ sz ≤ 8) :
    Calls Try.prog 9 #[dptr D, .slice (some ⟨A, 0, none⟩) 15 15, .int .i64 sz] w (NextX w D (ordO 10 (1 + belV 4 (weighS zs 15 s)) sz (belS 4 (weighS zs 15 s)))) := by
  refine opq fun R HR => ?_
  have HW := Lib.hid (fun wz hd hi => rdweigh_any D s (some ⟨A, 0, none⟩) 15 15 zs wz hd hs (by omega) hi)
  have hu := weighS_u zs 15 s hs
  rw [hw] at HW
  generalize weighS zs 15 s = t at *
  have H := Lib.hid h
  have HI := Lib.hid hi
  have hDlt := h.lt
  have hu4 := belS_u 4 t hu
  have hb4 := belV_bd 4 t
  have H4 := Lib.hid (fun wz (hd : DS wz D t) => rdbelow_any D t 4 wz hd hu (by omega))
  generalize belV 4 t = v4 at *
  generalize belS 4 t = t4 at *
  have e4 : IntKind.i64.wrap (1 + v4) = 1 + v4 := IntWalk.i64_in _ (by omega)
  clear h hi hw
  unfold ordO at HR
  try dsimp only at HR
  have hb5 := belV_bd (9) t4
  have hu5 := belS_u (9) t4 hu4
  have HC0 := Lib.hid (fun wz (hd : DS wz D t4) => rdbelow_any D t4 (9) wz hd hu4 (by omega))
  generalize belV (9) t4 = v5 at *
  generalize belS (9) t4 = t5 at *
  have e5 : IntKind.i64.wrap (1 + v5) = 1 + v5 := IntWalk.i64_in _ (by omega)
  go_enter Try.func9, Try.ntmps9
  go_wp2_with fail
  refine (HW.out _ (H.out.alloc _) (fun q => let ⟨b, o, h1, h2, h3, h4⟩ := HI.out q; ⟨b, o, h1, by simp; omega, h3, fun i hi => by rw [World.cell?_alloc_lt _ _ _ h2]; exact h4 i hi⟩)).mono ?_
  have B0 := Lib.hid (Blk.new w #[.int .i64 0, .slice none 0 0, .slice none 0 0] 45)
  have M0 := Lib.hid ((Mod.refl (fun i => i = D) w).alloc (.cells #[.int .i64 0, .slice none 0 0, .slice none 0 0] 45))
  have hZ0 : w.heap.size ≠ D := by omega
  have hG0 : w.heap.size ≤ w.heap.size := Nat.le_refl _
  generalize w.alloc _ = W at *
  generalize hzz : w.heap.size = Z0 at hG0 hZ0 B0 ⊢
  rintro e w1 ⟨rfl, hd, hM⟩
  have M1 := Lib.hid (M0.out.trans hM)
  have B01 := Lib.hid (B0.out.mod hM hZ0)
  have D1 := Lib.hid hd
  clear hd hM B0 M0 HW
  go_wp2_with fail
  refine (H4.out _ (D1.out.alloc _)).mono ?_
  have hZ1D : w1.heap.size ≠ D := by have := D1.out.lt; omega
  have hZ01 : Z0 ≠ w1.heap.size := by have := B01.out.lt; omega
  have hG1 : w.heap.size ≤ w1.heap.size := M1.out.size
  have B02 := Lib.hid (B01.out.alloc (.cells #[.int .i64 11, .slice none 0 0, .slice none 0 0] 45))
  have B12 := Lib.hid (Blk.new w1 #[.int .i64 11, .slice none 0 0, .slice none 0 0] 45)
  have M2 := Lib.hid (M1.out.alloc (.cells #[.int .i64 11, .slice none 0 0, .slice none 0 0] 45))
  generalize w1.alloc _ = W1 at *
  generalize w1.heap.size = Z1 at *
  rintro e w2 ⟨rfl, hd, hM⟩
  have M3 := Lib.hid (M2.out.trans hM)
  have B03 := Lib.hid (B02.out.mod hM hZ0)
  have B13 := Lib.hid (B12.out.mod hM hZ1D)
  have D3 := Lib.hid hd
  clear hd hM B02 B12 M2 H4 D1 M1 B01 HI H
  have k0 := B13.out.at_ (i := 0) (.int .i64 11) rfl
  go_wp2_with fail
  refine (HC0.out _ D3.out).mono ?_
  rintro e w3 ⟨rfl, hd, hM⟩
  have M3q := Lib.hid (M3.out.trans hM)
  have B03q := Lib.hid (B03.out.mod hM hZ0)
  have B13q := Lib.hid (B13.out.mod hM hZ1D)
  have D3q := Lib.hid hd
  clear hd hM B03 B13 M3 D3 k0 HC0
  have M3 := M3q
  have B03 := B03q
  have B13 := B13q
  have D3 := D3q
  clear M3q B03q B13q D3q
  have hc0 := B03.out.cell
  have hf0 := B03.out.free
  have hl0 := B03.out.lt
  have hc1 := B13.out.cell
  have hf1 := B13.out.free
  have hl1 := B13.out.lt
  go_wp2_with fail
  have hgD : w.heap.size ≤ w3.heap.size := M3.out.size
  obtain ⟨Wz, he, c0, c1, c2, hB, hDD, hMM⟩ := nxt_fin M3.out D3.out B03.out B13.out hZ0 hZ1D hZ01 (by omega) (by omega) (.slice (some ⟨w3.heap.size, 0, none⟩) 1 1) (.int .i64 11) (.slice (some ⟨w3.heap.size, 0, none⟩) 1 1) (.slice none 0 0) #[.int .i64 (v5)] 3
  rw [he]
  have HB := Lib.hid hB
  have HD := Lib.hid hDD
  have HM := Lib.hid hMM
  clear he hB hDD hMM hc0 hf0 hc1 hf1
  exact bodyPost_ret (v := .tuple #[.agg #[.int .i64 11, .slice (some ⟨w3.heap.size, 0, none⟩) 1 1, .slice none 0 0], .bool true]) (by simp [results, Try.results9, go_sem, c0, c1, c2]) rfl (HR.out _ _ ⟨_, rfl, ⟨_, _, _, _, rfl, FarRow.blk HB.out hgD, FarRow.nil _ _ _⟩, HD.out, HM.out⟩)
set_option maxRecDepth 10000 in
set_option maxHeartbeats 4000000 in
theorem next13 (D A : Nat) (zs : Nat → Int) (sz s : Int) (w : World) (h : DS w D s) (hs : U64 s) (hi : IntsAt w D (some ⟨A, 0, none⟩) 15 zs) (hw : weighV zs 15 s = 13) (hz : 1 ≤ sz ∧ sz ≤ 8) :
    Calls Try.prog 9 #[dptr D, .slice (some ⟨A, 0, none⟩) 15 15, .int .i64 sz] w (NextX w D (ordO 13 (1 + belV 4 (weighS zs 15 s)) sz (belS 4 (weighS zs 15 s)))) := by
  refine opq fun R HR => ?_
  have HW := Lib.hid (fun wz hd hi => rdweigh_any D s (some ⟨A, 0, none⟩) 15 15 zs wz hd hs (by omega) hi)
  have hu := weighS_u zs 15 s hs
  rw [hw] at HW
  generalize weighS zs 15 s = t at *
  have H := Lib.hid h
  have HI := Lib.hid hi
  have hDlt := h.lt
  have hu4 := belS_u 4 t hu
  have hb4 := belV_bd 4 t
  have H4 := Lib.hid (fun wz (hd : DS wz D t) => rdbelow_any D t 4 wz hd hu (by omega))
  generalize belV 4 t = v4 at *
  generalize belS 4 t = t4 at *
  have e4 : IntKind.i64.wrap (1 + v4) = 1 + v4 := IntWalk.i64_in _ (by omega)
  clear h hi hw
  unfold ordO at HR
  try dsimp only at HR
  have hb5 := belV_bd (60) t4
  have hu5 := belS_u (60) t4 hu4
  have HC0 := Lib.hid (fun wz (hd : DS wz D t4) => rdbelow_any D t4 (60) wz hd hu4 (by omega))
  generalize belV (60) t4 = v5 at *
  generalize belS (60) t4 = t5 at *
  have e5 : IntKind.i64.wrap (1 + v5) = 1 + v5 := IntWalk.i64_in _ (by omega)
  go_enter Try.func9, Try.ntmps9
  go_wp2_with fail
  refine (HW.out _ (H.out.alloc _) (fun q => let ⟨b, o, h1, h2, h3, h4⟩ := HI.out q; ⟨b, o, h1, by simp; omega, h3, fun i hi => by rw [World.cell?_alloc_lt _ _ _ h2]; exact h4 i hi⟩)).mono ?_
  have B0 := Lib.hid (Blk.new w #[.int .i64 0, .slice none 0 0, .slice none 0 0] 45)
  have M0 := Lib.hid ((Mod.refl (fun i => i = D) w).alloc (.cells #[.int .i64 0, .slice none 0 0, .slice none 0 0] 45))
  have hZ0 : w.heap.size ≠ D := by omega
  have hG0 : w.heap.size ≤ w.heap.size := Nat.le_refl _
  generalize w.alloc _ = W at *
  generalize hzz : w.heap.size = Z0 at hG0 hZ0 B0 ⊢
  rintro e w1 ⟨rfl, hd, hM⟩
  have M1 := Lib.hid (M0.out.trans hM)
  have B01 := Lib.hid (B0.out.mod hM hZ0)
  have D1 := Lib.hid hd
  clear hd hM B0 M0 HW
  go_wp2_with fail
  refine (H4.out _ (D1.out.alloc _)).mono ?_
  have hZ1D : w1.heap.size ≠ D := by have := D1.out.lt; omega
  have hZ01 : Z0 ≠ w1.heap.size := by have := B01.out.lt; omega
  have hG1 : w.heap.size ≤ w1.heap.size := M1.out.size
  have B02 := Lib.hid (B01.out.alloc (.cells #[.int .i64 14, .slice none 0 0, .slice none 0 0] 45))
  have B12 := Lib.hid (Blk.new w1 #[.int .i64 14, .slice none 0 0, .slice none 0 0] 45)
  have M2 := Lib.hid (M1.out.alloc (.cells #[.int .i64 14, .slice none 0 0, .slice none 0 0] 45))
  generalize w1.alloc _ = W1 at *
  generalize w1.heap.size = Z1 at *
  rintro e w2 ⟨rfl, hd, hM⟩
  have M3 := Lib.hid (M2.out.trans hM)
  have B03 := Lib.hid (B02.out.mod hM hZ0)
  have B13 := Lib.hid (B12.out.mod hM hZ1D)
  have D3 := Lib.hid hd
  clear hd hM B02 B12 M2 H4 D1 M1 B01 HI H
  have k0 := B13.out.at_ (i := 0) (.int .i64 14) rfl
  go_wp2_with fail
  refine (HC0.out _ D3.out).mono ?_
  rintro e w3 ⟨rfl, hd, hM⟩
  have M3q := Lib.hid (M3.out.trans hM)
  have B03q := Lib.hid (B03.out.mod hM hZ0)
  have B13q := Lib.hid (B13.out.mod hM hZ1D)
  have D3q := Lib.hid hd
  clear hd hM B03 B13 M3 D3 k0 HC0
  have M3 := M3q
  have B03 := B03q
  have B13 := B13q
  have D3 := D3q
  clear M3q B03q B13q D3q
  have hc0 := B03.out.cell
  have hf0 := B03.out.free
  have hl0 := B03.out.lt
  have hc1 := B13.out.cell
  have hf1 := B13.out.free
  have hl1 := B13.out.lt
  go_wp2_with fail
  have hgD : w.heap.size ≤ w3.heap.size := M3.out.size
  obtain ⟨Wz, he, c0, c1, c2, hB, hDD, hMM⟩ := nxt_fin M3.out D3.out B03.out B13.out hZ0 hZ1D hZ01 (by omega) (by omega) (.slice (some ⟨w3.heap.size, 0, none⟩) 1 1) (.int .i64 14) (.slice (some ⟨w3.heap.size, 0, none⟩) 1 1) (.slice none 0 0) #[.int .i64 (v5)] 3
  rw [he]
  have HB := Lib.hid hB
  have HD := Lib.hid hDD
  have HM := Lib.hid hMM
  clear he hB hDD hMM hc0 hf0 hc1 hf1
  exact bodyPost_ret (v := .tuple #[.agg #[.int .i64 14, .slice (some ⟨w3.heap.size, 0, none⟩) 1 1, .slice none 0 0], .bool true]) (by simp [results, Try.results9, go_sem, c0, c1, c2]) rfl (HR.out _ _ ⟨_, rfl, ⟨_, _, _, _, rfl, FarRow.blk HB.out hgD, FarRow.nil _ _ _⟩, HD.out, HM.out⟩)
end Go.Proofs.Ythkpmmkddgjhmaa
