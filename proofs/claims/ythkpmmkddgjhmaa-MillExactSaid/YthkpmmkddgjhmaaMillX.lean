import Derived.Test.YthkpmmkddgjhmaaMillQ
import Derived.Laws.BytesArg
import Derived.OwnWalk
set_option linter.unusedSimpArgs false
set_option linter.unusedVariables false
namespace Go.Proofs.Ythkpmmkddgjhmaa
open Go Go.RowKit
theorem info5 : (Try.prog.info? 5).map (fun i => (i.zero, i.size, i.bytes)) = some (some (.int .u8 0), 1, 1) := by kernel_rfl
theorem empty1 (w : World) (base : Nat) (e : TypeId) (h : base ≤ w.heap.size) : (w.alloc (.cells #[] e)).ownsRow base e 1 (.slice (some ⟨w.heap.size, 0, none⟩) 0 0) 0 [] :=
  ⟨rfl, .inr ⟨w.heap.size, 0, #[], rfl, h, (by show (w.heap.push _)[w.heap.size]? = _; exact Array.getElem?_push_size), Nat.le_refl _, Nat.zero_le _, rfl, rfl⟩⟩
theorem nxt_fin2 {w w3 : World} {D Z0 Z1 G : Nat} {t : Int} {c1 cg : Array Value} (M : Mod (fun i => i = D) w w3) (hd : DS w3 D t) (B0 : Blk w3 Z0 #[.int .i64 0, .slice none 0 0, .slice none 0 0]) (B1 : Blk w3 Z1 c1) (BG : Blk w3 G cg) (gG0 : G ≠ Z0) (gG1 : G ≠ Z1) (n0 : Z0 ≠ D) (n1 : Z1 ≠ D) (n01 : Z0 ≠ Z1) (g0 : w.heap.size ≤ Z0) (g1 : w.heap.size ≤ Z1) (p kv nv dv : Value) (cs : Array Value) (T : TypeId) :
    ∃ W, (((((w3.setCell ⟨Z1, 2, none⟩ p).setCell ⟨Z0, 0, none⟩ kv).setCell ⟨Z0, 1, none⟩ nv).setCell ⟨Z0, 2, none⟩ dv).alloc (.cells cs T)) = W ∧
      W.cell? ⟨Z0, 0, none⟩ = some kv ∧ W.cell? ⟨Z0, 1, none⟩ = some nv ∧ W.cell? ⟨Z0, 2, none⟩ = some dv ∧ Blk W w3.heap.size cs ∧ Blk W G cg ∧ DS W D t ∧ Mod (fun i => i = D) w W := by
  have q0 : ∀ k : Nat, (⟨Z0, k, none⟩ : Addr).block < w.heap.size → (⟨Z0, k, none⟩ : Addr).block = D := fun k q => by
    have q' : Z0 < w.heap.size := q
    omega
  have q1 : ∀ k : Nat, (⟨Z1, k, none⟩ : Addr).block < w.heap.size → (⟨Z1, k, none⟩ : Addr).block = D := fun k q => by
    have q' : Z1 < w.heap.size := q
    omega
  have B := (((((B0.set_far (p := ⟨Z1, 2, none⟩) (fun e => n01 (show Z0 = Z1 from e.symm)) p).set 0 kv).set 1 nv).set 2 dv).alloc (.cells cs T))
  refine ⟨_, rfl, ?_, ?_, ?_, ?_, ((((BG.set_far (p := ⟨Z1, 2, none⟩) (fun e => gG1 (show G = Z1 from e.symm)) p).set_far (p := ⟨Z0, 0, none⟩) (fun e => gG0 (show G = Z0 from e.symm)) kv).set_far (p := ⟨Z0, 1, none⟩) (fun e => gG0 (show G = Z0 from e.symm)) nv).set_far (p := ⟨Z0, 2, none⟩) (fun e => gG0 (show G = Z0 from e.symm)) dv).alloc _, ((((hd.set_far (p := ⟨Z1, 2, none⟩) n1 p).set_far (p := ⟨Z0, 0, none⟩) n0 kv).set_far (p := ⟨Z0, 1, none⟩) n0 nv).set_far (p := ⟨Z0, 2, none⟩) n0 dv).alloc _, ((((M.setCell (q1 2) p).setCell (q0 0) kv).setCell (q0 1) nv).setCell (q0 2) dv).alloc _⟩
  · exact B.at_ (i := 0) kv rfl
  · exact B.at_ (i := 1) nv rfl
  · exact B.at_ (i := 2) dv rfl
  · have := Blk.new ((((w3.setCell ⟨Z1, 2, none⟩ p).setCell ⟨Z0, 0, none⟩ kv).setCell ⟨Z0, 1, none⟩ nv).setCell ⟨Z0, 2, none⟩ dv) cs T
    simpa using this
theorem rem16 (k : Nat) (h : k < 256) : wrap64 ((k : Int).tmod 16) = ((k % 16 : Nat) : Int) := by
  rw [Int.tmod_eq_emod_of_nonneg (by omega), show (k : Int) % 16 = ((k % 16 : Nat) : Int) by omega]; exact IntWalk.wrap64_in _ (by omega)
theorem mod16y {k : Nat} (h : k % 16 = 0) : (k : Int) % 16 = 0 := by omega
theorem mod16n {k : Nat} (h : ¬ k % 16 = 0) : ¬ (k : Int) % 16 = 0 := by omega
theorem quo16 (k : Nat) (h : k < 256) : wrap64 ((k : Int).tdiv 16) = ((k / 16 : Nat) : Int) := by
  rw [Int.tdiv_eq_ediv_of_nonneg (by omega), show (k : Int) / 16 = ((k / 16 : Nat) : Int) by omega]; exact IntWalk.wrap64_in _ (by omega)
theorem quo16u (k : Nat) (h : k < 256) : IntKind.u8.wrap ((k / 16 : Nat) : Int) = ((k / 16 : Nat) : Int) := by
  have h16 : k / 16 < 16 := by omega
  generalize k / 16 = q at *
  unfold IntKind.wrap; simp [IntKind.signed, IntKind.bits]; omega
/-- The k-th byte of the sectors. -/
def byteB (b : Int) (k : Nat) : Int := if k % 16 = 0 then (k : Int) / 16 else b
def rowB (b : Int) (k : Nat) : List Int := (List.range k).map (byteB b)
theorem rowB_succ (b : Int) (k : Nat) : rowB b (k + 1) = rowB b k ++ [byteB b k] := by simp [rowB, List.range_succ]
theorem rowB_len (b : Int) (k : Nat) : (rowB b k).length = k := by simp [rowB]
theorem rowB_data (b : Int) (n : Nat) (hn : n ≤ 100) : strOfNums (rowB b (16 * n)) = ⟨(dataL b n).toArray⟩ := by
  unfold strOfNums
  congr 2
  induction n with
  | zero => rfl
  | succ n ih =>
    have e : 16 * (n + 1) = 16 * n + 1 + 15 := by omega
    have h15 : ∀ m, m ≤ 15 → (rowB b (16 * n + 1 + m)).map (fun x => UInt8.ofNat x.toNat) = (dataL b n ++ [n.toUInt8]) ++ Lib.repeatL (strOfNums [b]).data.toList m := by
      intro m
      induction m with
      | zero =>
        intro _
        rw [Nat.add_zero, rowB_succ, List.map_append, ih (by omega)]
        have h0 : byteB b (16 * n) = (n : Int) := by
          unfold byteB
          rw [if_pos (by omega)]
          omega
        rw [List.map_singleton, h0]
        simp [Lib.repeatL, Nat.toUInt8]
      | succ m ihm =>
        intro hm
        rw [← Nat.add_assoc, rowB_succ, List.map_append, ihm (by omega)]
        have h0 : byteB b (16 * n + 1 + m) = b := by
          unfold byteB
          rw [if_neg (by omega)]
        rw [List.map_singleton, h0, Lib.repeatL_add _ m 1, Lib.repeatL_one, List.append_assoc]
        rfl
    rw [e]
    exact h15 15 (Nat.le_refl _)
set_option maxRecDepth 10000 in
set_option maxHeartbeats 8000000 in
theorem next7 (D A : Nat) (zs : Nat → Int) (sz s : Int) (w : World) (h : DS w D s) (hs : U64 s) (hi : IntsAt w D (some ⟨A, 0, none⟩) 15 zs) (hw : weighV zs 15 s = 7) (hz : 1 ≤ sz ∧ sz ≤ 8) :
    Calls Try.prog 9 #[dptr D, .slice (some ⟨A, 0, none⟩) 15 15, .int .i64 sz] w (NextX w D (ordO 7 (1 + belV 4 (weighS zs 15 s)) sz (belS 4 (weighS zs 15 s)))) := by
  refine opq fun R HR => ?_
  have HW := Lib.hid (fun wz hd hi => rdweigh_any D s (some ⟨A, 0, none⟩) 15 15 zs wz hd hs (by omega) hi)
  have hu := weighS_u zs 15 s hs
  rw [hw] at HW
  generalize weighS zs 15 s = t at *
  have H := Lib.hid h
  have HI := Lib.hid hi
  have hDlt := h.lt
  have hu4 := belS_u 4 t hu
  have hb4 := belV_bd 4 t
  have H4 := Lib.hid (fun wz (hd : DS wz D t) => rdbelow_any D t 4 wz hd hu (by omega))
  generalize belV 4 t = v4 at *
  generalize belS 4 t = t4 at *
  have e4 : IntKind.i64.wrap (1 + v4) = 1 + v4 := IntWalk.i64_in _ (by omega)
  clear h hi hw
  unfold ordO rangeO at HR
  try dsimp only at HR
  have hb5 := belV_bd (8 * sz) t4
  have hu5 := belS_u (8 * sz) t4 hu4
  have HC0 := Lib.hid (fun wz (hd : DS wz D t4) => rdbelow_any D t4 (8 * sz) wz hd hu4 (by omega))
  generalize belV (8 * sz) t4 = v5 at *
  generalize belS (8 * sz) t4 = t5 at *
  have e5 : IntKind.i64.wrap (1 + v5) = 1 + v5 := IntWalk.i64_in _ (by omega)
  have f0 : IntKind.i64.wrap (8 * sz) = 8 * sz := IntWalk.i64_in _ (by omega)
  have hb6 := belV_bd (2 * sz) t5
  have hu6 := belS_u (2 * sz) t5 hu5
  have HC1 := Lib.hid (fun wz (hd : DS wz D t5) => rdbelow_any D t5 (2 * sz) wz hd hu5 (by omega))
  generalize belV (2 * sz) t5 = v6 at *
  generalize belS (2 * sz) t5 = t6 at *
  have e6 : IntKind.i64.wrap (1 + v6) = 1 + v6 := IntWalk.i64_in _ (by omega)
  have f1 : IntKind.i64.wrap (2 * sz) = 2 * sz := IntWalk.i64_in _ (by omega)
  have hb7 := belV_bd (200) t6
  have hu7 := belS_u (200) t6 hu6
  have HC2 := Lib.hid (fun wz (hd : DS wz D t6) => rdbelow_any D t6 (200) wz hd hu6 (by omega))
  generalize belV (200) t6 = v7 at *
  generalize belS (200) t6 = t7 at *
  have e7 : IntKind.i64.wrap (1 + v7) = 1 + v7 := IntWalk.i64_in _ (by omega)
  obtain ⟨nn, hnn⟩ : ∃ nn : Nat, 1 + v6 = (nn : Int) := ⟨(1 + v6).toNat, by omega⟩
  obtain ⟨b, hb⟩ : ∃ b, 1 + v7 = b := ⟨_, rfl⟩
  rw [hnn, Int.toNat_natCast] at HR
  rw [hnn] at e6
  rw [hb] at HR e7
  have hn1 : 1 ≤ nn ∧ nn ≤ 16 := by omega
  have hbb : 1 ≤ b ∧ b ≤ 200 := by omega
  have em : IntKind.i64.wrap (16 * (nn : Int)) = ((16 * nn : Nat) : Int) := by rw [show (16 * (nn : Int)) = ((16 * nn : Nat) : Int) by omega]; exact IntWalk.i64_in _ (by omega)
  have e6' : wrap64 (1 + v6) = (nn : Int) := by rw [hnn]; exact IntWalk.wrap64_in _ (by omega)
  have e7' : wrap64 (1 + v7) = b := by rw [hb]; exact IntWalk.wrap64_in _ (by omega)
  have eb : IntKind.u8.wrap b = b := by unfold IntKind.wrap; simp [IntKind.signed, IntKind.bits]; omega
  have em' : wrap64 (16 * (nn : Int)) = ((16 * nn : Nat) : Int) := by rw [show (16 * (nn : Int)) = ((16 * nn : Nat) : Int) by omega]; exact IntWalk.wrap64_in _ (by omega)
  obtain ⟨nb, hnb⟩ : ∃ nb, 16 * nn = nb := ⟨_, rfl⟩
  rw [hnb] at em em'
  have HNB := Lib.hid hnb
  have hnb2 : nb ≤ 256 := by omega
  clear hnb
  obtain ⟨i0, hi5, hz0, hz1, hz2⟩ := info_parts info5
  have HI0 := Lib.hid hi5
  have HZ0q := Lib.hid hz0
  have HZ1q := Lib.hid hz1
  have HZ2q := Lib.hid hz2
  clear hi5 hz0 hz1 hz2
  go_enter Try.func9, Try.ntmps9
  go_wp2_with fail
  refine (HW.out _ (H.out.alloc _) (fun q => let ⟨b, o, h1, h2, h3, h4⟩ := HI.out q; ⟨b, o, h1, by simp; omega, h3, fun i hi => by rw [World.cell?_alloc_lt _ _ _ h2]; exact h4 i hi⟩)).mono ?_
  have B0 := Lib.hid (Blk.new w #[.int .i64 0, .slice none 0 0, .slice none 0 0] 45)
  have M0 := Lib.hid ((Mod.refl (fun i => i = D) w).alloc (.cells #[.int .i64 0, .slice none 0 0, .slice none 0 0] 45))
  have hZ0 : w.heap.size ≠ D := by omega
  have hG0 : w.heap.size ≤ w.heap.size := Nat.le_refl _
  generalize w.alloc _ = W at *
  generalize hzz : w.heap.size = Z0 at hG0 hZ0 B0 ⊢
  rintro e w1 ⟨rfl, hd, hM⟩
  have M1 := Lib.hid (M0.out.trans hM)
  have B01 := Lib.hid (B0.out.mod hM hZ0)
  have D1 := Lib.hid hd
  clear hd hM B0 M0 HW
  go_wp2_with fail
  refine (H4.out _ (D1.out.alloc _)).mono ?_
  have hZ1D : w1.heap.size ≠ D := by have := D1.out.lt; omega
  have hZ01 : Z0 ≠ w1.heap.size := by have := B01.out.lt; omega
  have hG1 : w.heap.size ≤ w1.heap.size := M1.out.size
  have B02 := Lib.hid (B01.out.alloc (.cells #[.int .i64 8, .slice none 0 0, .slice none 0 0] 45))
  have B12 := Lib.hid (Blk.new w1 #[.int .i64 8, .slice none 0 0, .slice none 0 0] 45)
  have M2 := Lib.hid (M1.out.alloc (.cells #[.int .i64 8, .slice none 0 0, .slice none 0 0] 45))
  generalize w1.alloc _ = W1 at *
  generalize w1.heap.size = Z1 at *
  rintro e w2 ⟨rfl, hd, hM⟩
  have M3 := Lib.hid (M2.out.trans hM)
  have B03 := Lib.hid (B02.out.mod hM hZ0)
  have B13 := Lib.hid (B12.out.mod hM hZ1D)
  have D3 := Lib.hid hd
  clear hd hM B02 B12 M2 H4 D1 M1 B01 HI H
  have k0 := B13.out.at_ (i := 0) (.int .i64 8) rfl
  go_wp2_with fail
  refine (HC0.out _ D3.out).mono ?_
  rintro e w3 ⟨rfl, hd, hM⟩
  have M3q := Lib.hid (M3.out.trans hM)
  have B03q := Lib.hid (B03.out.mod hM hZ0)
  have B13q := Lib.hid (B13.out.mod hM hZ1D)
  have D3q := Lib.hid hd
  clear hd hM B03 B13 M3 D3 k0 HC0
  have M3 := M3q
  have B03 := B03q
  have B13 := B13q
  have D3 := D3q
  clear M3q B03q B13q D3q
  have k1 := B13.out.at_ (i := 0) (.int .i64 8) rfl
  go_wp2_with fail
  refine (HC1.out _ D3.out).mono ?_
  rintro e w4 ⟨rfl, hd, hM⟩
  have M3q := Lib.hid (M3.out.trans hM)
  have B03q := Lib.hid (B03.out.mod hM hZ0)
  have B13q := Lib.hid (B13.out.mod hM hZ1D)
  have D3q := Lib.hid hd
  clear hd hM B03 B13 M3 D3 k1 HC1
  have M3 := M3q
  have B03 := B03q
  have B13 := B13q
  have D3 := D3q
  clear M3q B03q B13q D3q
  have k2 := B13.out.at_ (i := 0) (.int .i64 8) rfl
  go_wp2_with fail
  refine (HC2.out _ D3.out).mono ?_
  rintro e w5 ⟨rfl, hd, hM⟩
  have M3q := Lib.hid (M3.out.trans hM)
  have B03q := Lib.hid (B03.out.mod hM hZ0)
  have B13q := Lib.hid (B13.out.mod hM hZ1D)
  have D3q := Lib.hid hd
  clear hd hM B03 B13 M3 D3 k2 HC2
  have M3 := M3q
  have B03 := B03q
  have B13 := B13q
  have D3 := D3q
  clear M3q B03q B13q D3q
  go_wp2_with fail
  go_loopw [16, 15] (fun i v wr => ∃ k : Nat, k ≤ nb ∧ i = .int .i64 k ∧ wr.ownsRow w5.heap.size 5 1 v k ((rowB b k).map (Value.int .u8)) ∧ Same w5 wr) (fun i _ _ => nb - (intOf i).toNat)
  case atStart => exact ⟨0, by omega, rfl, empty1 w5 _ _ (Nat.le_refl _), (Mod.refl _ _).alloc _⟩
  case round =>
    obtain ⟨k, hk, rfl, hown, MM⟩ := hrel
    by_cases hlt : k < nb
    · have J1 := Lib.hid hown
      have J2 := Lib.hid MM
      have hsz : w5.heap.size ≤ wr.heap.size := MM.size
      clear hown MM
      clear hb4 hb5 hb6 hb7 hz em f0 f1 e4 e5 hnn hbb
      have hk256 : k < 256 := by omega
      have hlt' : (k : Int) < (nb : Int) := by omega
      have hk1 : k + 1 ≤ nb := hlt
      have hmeas : nb - (k + 1) < nb - k := Nat.sub_lt_sub_left hlt (Nat.lt_succ_self k)
      have hkm : k + 1 ≤ maxLen := Nat.le_trans hk256 (by decide)
      have hk47 : (k + 1) * 1 ≤ 140737488355328 := by rw [Nat.mul_one]; exact Nat.le_trans hk256 (by decide)
      have r5 := quo16u k hk256
      have r6 := rem16 k hk256
      have r7 := quo16 k hk256
      clear hk hn1 hk256
      obtain ⟨km, hqm⟩ : ∃ km, k % 16 = km := ⟨_, rfl⟩
      rw [hqm] at r6
      obtain ⟨kd, hqd⟩ : ∃ kd, k / 16 = kd := ⟨_, rfl⟩
      rw [hqd] at r5 r7
      have HQM := Lib.hid hqm
      have HQD := Lib.hid hqd
      clear hqm hqd
      by_cases hm : km = 0
      · have hmi := mod16y (HQM.out.trans hm)
        have hm1 : ((k : Int) % 16 == 0) = true := by rw [hmi]; rfl
        have HF := Lib.hid (show rowB b (k + 1) = rowB b k ++ [((k : Int) / 16)] by rw [rowB_succ]; unfold byteB; rw [if_pos (by rw [HQM.out]; exact hm)])
        go_wp2_with (at_builtin; refine wpList_append_own _ rfl (.tmp 102) (.tmp 106) 60 rfl w5.heap.size 5 i0 (.int .u8 0) 1 1 Try.underlying60 HI0.out HZ0q.out HZ1q.out HZ2q.out rfl (by decide) _ _ _ rfl (J1.out.alloc _) ⟨wr.heap.size, 0, none⟩ 1 1 [.int .u8 ((k : Int) / 16)] rfl rfl (one_new _ _ _) (fun u hu => (by simp at hu; subst hu; rfl)) hkm hk47 (by simp only [World.size_alloc]; exact Nat.le_succ_of_le hsz) ?_; intro v' w9 hown' hgrow _)
        have J7 := Lib.hid (same_append J2.out J1.out hgrow)
        have J8 := Lib.hid hown'
        clear hown' hgrow
        go_wp2
        go_roundw
        case rel => exact ⟨k + 1, hk1, by go_num, by rw [HF.out, List.map_append]; exact J8.out, J7.out⟩
        case measure => simp [intOf]; clear HF J7 J8; exact hmeas
      · have hmi := mod16n (fun q => hm (HQM.out.symm.trans q))
        have hm1 : ((k : Int) % 16 == 0) = false := by rw [beq_eq_false_iff_ne]; exact hmi
        have HF := Lib.hid (show rowB b (k + 1) = rowB b k ++ [b] by rw [rowB_succ]; unfold byteB; rw [if_neg (by rw [HQM.out]; exact hm)])
        go_wp2_with (at_builtin; refine wpList_append_own _ rfl (.tmp 108) (.tmp 111) 60 rfl w5.heap.size 5 i0 (.int .u8 0) 1 1 Try.underlying60 HI0.out HZ0q.out HZ1q.out HZ2q.out rfl (by decide) _ _ _ rfl (J1.out.alloc _) ⟨wr.heap.size, 0, none⟩ 1 1 [.int .u8 b] rfl rfl (one_new _ _ _) (fun u hu => (by simp at hu; subst hu; rfl)) hkm hk47 (by simp only [World.size_alloc]; exact Nat.le_succ_of_le hsz) ?_; intro v' w9 hown' hgrow _)
        have J7 := Lib.hid (same_append J2.out J1.out hgrow)
        have J8 := Lib.hid hown'
        clear hown' hgrow
        go_wp2
        go_roundw
        case rel => exact ⟨k + 1, hk1, by go_num, by rw [HF.out, List.map_append]; exact J8.out, J7.out⟩
        case measure => simp [intOf]; clear HF J7 J8; exact hmeas
    · have hke : k = nb := Nat.le_antisymm hk (Nat.le_of_not_lt hlt)
      subst hke
      have hpos : 0 < k := by have := HNB.out; omega
      obtain ⟨g, cap, rfl, hg, hc, hrow⟩ := RowV.of_owns hown hpos
      have J2 := Lib.hid MM
      have HRw := Lib.hid hrow
      have B0q := Lib.hid (B03.out.mod MM (fun q => q))
      have B1q := Lib.hid (B13.out.mod MM (fun q => q))
      have Dq := Lib.hid (D3.out.mod MM (fun q => q))
      have Mq := Lib.hid (M3.out.same MM)
      have hgZ1 : g ≠ Z1 := by have := B13.out.lt; omega
      clear hown MM hrow hb4 hb5 hb6 hb7 hz f0 f1 e4 e5 hnn hbb hg hc hk hlt B03 B13 D3 M3
      have hc1 := B1q.out.cell
      have hf1 := B1q.out.free
      have hl1 := B1q.out.lt
      go_upto_region 33 with fail
      have q1 : (⟨Z1, 1, none⟩ : Addr).block < w.heap.size → (⟨Z1, 1, none⟩ : Addr).block = D := fun q => by
        have q2 : Z1 < w.heap.size := q
        omega
      have R8 := Lib.hid ((HRw.out.set_far (p := ⟨Z1, 1, none⟩) (fun e => hgZ1 (show g = Z1 from e.symm)) (.slice (some ⟨wr.heap.size, 0, none⟩) 2 2)).alloc (.cells #[.int .i64 (1 + v4), .int .i64 v5] 3))
      have B08 := Lib.hid ((B0q.out.set_far (p := ⟨Z1, 1, none⟩) (fun e => hZ01 (show Z0 = Z1 from e.symm)) (.slice (some ⟨wr.heap.size, 0, none⟩) 2 2)).alloc (.cells #[.int .i64 (1 + v4), .int .i64 v5] 3))
      have B18 := Lib.hid (show Blk _ Z1 #[.int .i64 8, .slice (some ⟨wr.heap.size, 0, none⟩) 2 2, .slice none 0 0] from (B1q.out.set 1 (.slice (some ⟨wr.heap.size, 0, none⟩) 2 2)).alloc (.cells #[.int .i64 (1 + v4), .int .i64 v5] 3))
      have BN := Lib.hid (Blk.new (wr.setCell ⟨Z1, 1, none⟩ (.slice (some ⟨wr.heap.size, 0, none⟩) 2 2)) #[.int .i64 (1 + v4), .int .i64 v5] 3)
      have hszn : (wr.setCell ⟨Z1, 1, none⟩ (.slice (some ⟨wr.heap.size, 0, none⟩) 2 2)).heap.size = wr.heap.size := by simp
      rw [hszn] at BN
      have D8 := Lib.hid ((Dq.out.set_far (p := ⟨Z1, 1, none⟩) hZ1D (.slice (some ⟨wr.heap.size, 0, none⟩) 2 2)).alloc (.cells #[.int .i64 (1 + v4), .int .i64 v5] 3))
      have M8 := Lib.hid ((Mq.out.setCell q1 (.slice (some ⟨wr.heap.size, 0, none⟩) 2 2)).alloc (.cells #[.int .i64 (1 + v4), .int .i64 v5] 3))
      have hnZ0 : wr.heap.size ≠ Z0 := by have := B0q.out.lt; omega
      have hnZ1 : wr.heap.size ≠ Z1 := by have := B1q.out.lt; omega
      have hGD : w.heap.size ≤ wr.heap.size := Mq.out.size
      generalize (wr.setCell _ _).alloc _ = W8 at *
      have hWD : w.heap.size ≤ W8.heap.size := M8.out.size
      generalize wr.heap.size = G at *
      clear hc1 hf1 hl1 B0q B1q Dq Mq HRw hszn q1 J2
      have kc := run_convert_bytes_arg (P := Try.prog) W8 60 5 Try.underlying60 Try.underlying5 g 0 k cap (rowB b k) (rowB_len b k) (fun i hi => by rw [Nat.zero_add]; refine (R8.out.cell i (by omega)).trans ?_; rw [List.getD_eq_getElem?_getD, List.getElem?_map, List.getD_eq_getElem?_getD, List.getElem?_eq_getElem (by rw [rowB_len]; exact hi)]; rfl) 9 Try.underlying9
      have hst : strOfNums (rowB b k) = ⟨(dataL b nn).toArray⟩ := by rw [← HNB.out]; exact rowB_data b nn (by omega)
      rw [hst] at kc
      have hc0 := B08.out.cell
      have hf0 := B08.out.free
      have hl0 := B08.out.lt
      have hc1 := B18.out.cell
      have hf1 := B18.out.free
      have hl1 := B18.out.lt
      go_wp2_with fail
      obtain ⟨Wz, he, c0, c1, c2, hB, hG, hDD, hMM⟩ := nxt_fin2 M8.out D8.out B08.out B18.out BN.out hnZ0 hnZ1 hZ0 hZ1D hZ01 (Nat.le_of_eq hzz) hG1 (.slice (some ⟨W8.heap.size, 0, none⟩) 1 1) (.int .i64 8) (.slice (some ⟨G, 0, none⟩) 2 2) (.slice (some ⟨W8.heap.size, 0, none⟩) 1 1) #[.string ⟨(dataL b nn).toArray⟩] 9
      rw [he]
      have HB := Lib.hid hB
      have HG := Lib.hid hG
      have HD := Lib.hid hDD
      have HMM := Lib.hid hMM
      clear he hB hG hDD hMM hc0 hf0 hc1 hf1 kc
      exact bodyPost_ret (v := .tuple #[.agg #[.int .i64 8, .slice (some ⟨G, 0, none⟩) 2 2, .slice (some ⟨W8.heap.size, 0, none⟩) 1 1], .bool true]) (by simp [results, Try.results9, go_sem, c0, c1, c2]) rfl (HR.out _ _ ⟨_, rfl, ⟨_, _, _, _, rfl, FarRow.blk HG.out hGD, FarRow.blk HB.out hWD⟩, HD.out, HMM.out⟩)
end Go.Proofs.Ythkpmmkddgjhmaa
