import Derived.Test.YthkpmmkddgjhmaaMillX
import Derived.Deep.AppendLies
import Derived.Deep.RegionLaw
set_option linter.unusedSimpArgs false
set_option linter.unusedVariables false
namespace Go.Proofs.Ythkpmmkddgjhmaa
open Go Go.RowKit
theorem info9 : (Try.prog.info? 9).map (fun i => (i.zero, i.size, i.bytes)) = some (some (.string ⟨#[]⟩), 1, 16) := by kernel_rfl
/-- The die's state behind k texts; the texts. -/
def stC (s : Int) : Nat → Int
  | 0 => s
  | k + 1 => belS 256 (stC s k)
def txC (s : Int) (k : Nat) : List ByteArray := (List.range k).map fun i => strOfNums [belV 256 (stC s i)]
theorem txC_succ (s : Int) (k : Nat) : txC s (k + 1) = txC s k ++ [strOfNums [belV 256 (stC s k)]] := by simp [txC, List.range_succ]
theorem stC_u (s : Int) (h : U64 s) : ∀ k, U64 (stC s k)
  | 0 => h
  | k + 1 => belS_u _ _ (stC_u s h k)
set_option maxRecDepth 10000 in
set_option maxHeartbeats 8000000 in
theorem next14 (D A : Nat) (zs : Nat → Int) (sz s : Int) (w : World) (h : DS w D s) (hs : U64 s) (hi : IntsAt w D (some ⟨A, 0, none⟩) 15 zs) (hw : weighV zs 15 s = 14) (hz : 1 ≤ sz ∧ sz ≤ 8) :
    Calls Try.prog 9 #[dptr D, .slice (some ⟨A, 0, none⟩) 15 15, .int .i64 sz] w (NextX w D (ordO 14 (1 + belV 4 (weighS zs 15 s)) sz (belS 4 (weighS zs 15 s)))) := by
  refine opq fun R HR => ?_
  have HW := Lib.hid (fun wz hd hi => rdweigh_any D s (some ⟨A, 0, none⟩) 15 15 zs wz hd hs (by omega) hi)
  have hu := weighS_u zs 15 s hs
  rw [hw] at HW
  generalize weighS zs 15 s = t at *
  have H := Lib.hid h
  have HI := Lib.hid hi
  have hDlt := h.lt
  have hu4 := belS_u 4 t hu
  have hb4 := belV_bd 4 t
  have H4 := Lib.hid (fun wz (hd : DS wz D t) => rdbelow_any D t 4 wz hd hu (by omega))
  generalize belV 4 t = v4 at *
  generalize belS 4 t = t4 at *
  have e4 : IntKind.i64.wrap (1 + v4) = 1 + v4 := IntWalk.i64_in _ (by omega)
  clear h hi hw
  change Hid (∀ e w', NextX w D (⟨14, [], txC t4 3⟩, stC t4 3) e w' → R e w') at HR
  obtain ⟨i0, hi5, hz0, hz1, hz2⟩ := info_parts info9
  have HI0 := Lib.hid hi5
  have HZ0q := Lib.hid hz0
  have HZ1q := Lib.hid hz1
  have HZ2q := Lib.hid hz2
  clear hi5 hz0 hz1 hz2
  go_enter Try.func9, Try.ntmps9
  go_wp2_with fail
  refine (HW.out _ (H.out.alloc _) (fun q => let ⟨b, o, h1, h2, h3, h4⟩ := HI.out q; ⟨b, o, h1, by simp; omega, h3, fun i hi => by rw [World.cell?_alloc_lt _ _ _ h2]; exact h4 i hi⟩)).mono ?_
  have B0 := Lib.hid (Blk.new w #[.int .i64 0, .slice none 0 0, .slice none 0 0] 45)
  have M0 := Lib.hid ((Mod.refl (fun i => i = D) w).alloc (.cells #[.int .i64 0, .slice none 0 0, .slice none 0 0] 45))
  have hZ0 : w.heap.size ≠ D := by omega
  have hG0 : w.heap.size ≤ w.heap.size := Nat.le_refl _
  generalize w.alloc _ = W at *
  generalize hzz : w.heap.size = Z0 at hG0 hZ0 B0 ⊢
  rintro e w1 ⟨rfl, hd, hM⟩
  have M1 := Lib.hid (M0.out.trans hM)
  have B01 := Lib.hid (B0.out.mod hM hZ0)
  have D1 := Lib.hid hd
  clear hd hM B0 M0 HW
  go_wp2_with fail
  refine (H4.out _ (D1.out.alloc _)).mono ?_
  have hZ1D : w1.heap.size ≠ D := by have := D1.out.lt; omega
  have hZ01 : Z0 ≠ w1.heap.size := by have := B01.out.lt; omega
  have hG1 : w.heap.size ≤ w1.heap.size := M1.out.size
  have B02 := Lib.hid (B01.out.alloc (.cells #[.int .i64 15, .slice none 0 0, .slice none 0 0] 45))
  have B12 := Lib.hid (Blk.new w1 #[.int .i64 15, .slice none 0 0, .slice none 0 0] 45)
  have M2 := Lib.hid (M1.out.alloc (.cells #[.int .i64 15, .slice none 0 0, .slice none 0 0] 45))
  generalize w1.alloc _ = W1 at *
  generalize w1.heap.size = Z1 at *
  rintro e w2 ⟨rfl, hd, hM⟩
  have M3 := Lib.hid (M2.out.trans hM)
  have B03 := Lib.hid (B02.out.mod hM hZ0)
  have B13 := Lib.hid (B12.out.mod hM hZ1D)
  have D3 := Lib.hid hd
  clear hd hM B02 B12 M2 H4 D1 M1 B01 HI H
  have k0 := B13.out.at_ (i := 0) (.int .i64 15) rfl
  have h2D : D < w2.heap.size := D3.out.lt
  have h12 : Z1 < w2.heap.size := B13.out.lt
  have h02 : Z0 < w2.heap.size := B03.out.lt
  have hww : w.heap.size ≤ w2.heap.size := M3.out.size
  go_wp2_with fail
  go_loopw [17] (fun i wr => ∃ (k : Nat) (dv : Value), k ≤ 3 ∧ i = .int .i64 k ∧ Blk wr Z0 #[.int .i64 0, .slice none 0 0, .slice none 0 0] ∧ Blk wr Z1 #[.int .i64 15, .slice none 0 0, dv] ∧ wr.ownsRow w2.heap.size 9 1 dv k ((txC t4 k).map Value.string) ∧ w2.heap.size ≤ wr.heap.size ∧ DS wr D (stC t4 k) ∧ Mod (fun i => i = D) w wr) (fun i _ => 3 - (intOf i).toNat)
  case atStart => exact ⟨0, .slice none 0 0, by omega, rfl, B03.out, B13.out, World.ownsRow_nil _ _ _ _, Nat.le_refl _, D3.out, M3.out⟩
  case round =>
    obtain ⟨k, dv, hk, rfl, hB0, hB1, hown, h2r, hD, hM⟩ := hrel
    by_cases hlt : k < 3
    · have hu := stC_u t4 hu4 k
      have HC := Lib.hid (fun wz (hd : DS wz D (stC t4 k)) => rdbelow_any D (stC t4 k) 256 wz hd hu (by omega))
      have hbv := belV_bd 256 (stC t4 k)
      have HT := Lib.hid (txC_succ t4 k)
      have HS := Lib.hid (show stC t4 (k + 1) = belS 256 (stC t4 k) from rfl)
      generalize stC t4 k = tk at *
      generalize belV 256 tk = v at *
      generalize belS 256 tk = tk2 at *
      have K0 := Lib.hid hB0
      have K1 := Lib.hid hB1
      have KO := Lib.hid hown
      have KD := Lib.hid hD
      have KM := Lib.hid hM
      have hl1 := hB1.lt
      have hd2 := hB1.at_ (i := 2) dv rfl
      have kc := fun (w : World) => conv1 w (IntKind.u8.wrap v)
      have hev : IntKind.u8.wrap v = v := by unfold IntKind.wrap; simp [IntKind.signed, IntKind.bits]; omega
      have HEV := Lib.hid hev
      clear hev
      clear hB0 hB1 hown hD hM M3 B03 B13 D3 k0
      go_wp2_with fail
      have hDl : D < w2.heap.size := by have := h2D; exact this
      have hk15 : k + 1 ≤ maxLen := Nat.le_trans (show k + 1 ≤ 4 by omega) (by decide)
      have hk16 : (k + 1) * 16 ≤ 140737488355328 := by omega
      go_region_law (first | (refine step_append_lies _ rfl (.tmp 140) (.tmp 146) 43 rfl w2.heap.size 9 i0 (.string ⟨#[]⟩) 1 16 Try.underlying43 HI0.out HZ0q.out HZ1q.out HZ2q.out rfl (by decide) _ _ _ (by simp [Act.eval, Act.put]) (((P5.out).alloc _).alloc _) ⟨w5.heap.size + 1, 0, none⟩ 1 1 [.string (strOfNums [IntKind.u8.wrap v])] (by simp [Act.eval, Act.put]) rfl (by have := one_new (w5.alloc (.cells #[.int .u8 (IntKind.u8.wrap v)] 5)) (.string (strOfNums [IntKind.u8.wrap v])) 9; simpa using this) (fun u hu => (by simp at hu; subst hu; rfl)) (by decide) hk15 hk16 (by simp only [World.size_alloc]; exact Nat.le_succ_of_le (Nat.le_succ_of_le h25)) (w5.heap.size + 1 + 1) (by simp) ?_; intro g cp w6 hown' hgrow hat hgl; have Q1 := Lib.hid hown'; have Q2 := Lib.hid hgrow; have Q3 := blk_append (w0 := w2) ((N1.out.alloc (.cells #[.int .u8 (IntKind.u8.wrap v)] 5))) h12 (P5.out.alloc _) hgrow; have hcq := Q3.cell; have hfq := Q3.free; have hlq := Q3.lt; clear hown' hgrow) | (go_simp; go_at_call 16; refine (HC.out _ KD.out.drew).mono ?_; rintro e w5 ⟨rfl, h1, M1⟩; have N1 := Lib.hid (K1.out.drew.mod M1 hZ1D); have hd5 := N1.out.at_ (i := 2) dv rfl; have hl5 := N1.out.lt; have P5 := Lib.hid (own_mod KO.out ((Mod.refl (fun i => i = D) wr).drew.trans M1) hDl); have P6 := Lib.hid h1; have P7 := Lib.hid (KM.out.drew.trans M1); have P8 := Lib.hid (K0.out.drew.mod M1 hZ0); have h25 : w2.heap.size ≤ w5.heap.size := Nat.le_trans h2r M1.size; clear h1 M1))
      all_goals
        have hgg : w2.heap.size ≤ g := owns_ge Q1.out g rfl
        have q1 : (⟨Z1, 2, none⟩ : Addr).block < w.heap.size → (⟨Z1, 2, none⟩ : Addr).block = D := fun q => by
          have q2 : Z1 < w.heap.size := q
          omega
        have T0 := Lib.hid ((blk_append (w0 := w2) (P8.out.alloc _) h02 (P5.out.alloc _) Q2.out).set_far (p := ⟨Z1, 2, none⟩) (fun e => hZ01 (show Z0 = Z1 from e.symm)) (.slice (some ⟨g, 0, none⟩) (k + 1) cp))
        have T1 := Lib.hid (show Blk _ Z1 #[.int .i64 15, .slice none 0 0, .slice (some ⟨g, 0, none⟩) (k + 1) cp] from Q3.set 2 (.slice (some ⟨g, 0, none⟩) (k + 1) cp))
        have TD := Lib.hid ((blk_append (w0 := w2) (P6.out.alloc _) h2D (P5.out.alloc _) Q2.out).set_far (p := ⟨Z1, 2, none⟩) hZ1D (.slice (some ⟨g, 0, none⟩) (k + 1) cp))
        have TM := Lib.hid ((((P7.out.alloc _).alloc _).grown Q2.out (fun k hk hl => by have := owns_ge P5.out k hk; omega)).setCell q1 (.slice (some ⟨g, 0, none⟩) (k + 1) cp))
        have TO := Lib.hid (ownsRow_setCell_other (a := ⟨Z1, 2, none⟩) Q1.out (fun e => by have e2 : g = Z1 := (by simpa [Value.ownBlock] using e); omega) (.slice (some ⟨g, 0, none⟩) (k + 1) cp))
        have TS : w2.heap.size ≤ w6.heap.size := by have := Q2.out.size; simp only [World.size_alloc] at this; omega
        have HF := Lib.hid (show (txC t4 (k + 1)).map Value.string = (txC t4 k).map Value.string ++ [.string (strOfNums [IntKind.u8.wrap v])] by rw [HT.out, HEV.out, List.map_append]; rfl)
        clear Q3 hcq hfq hlq q1 Q1 Q2 P5 P6 P7 P8 N1 hd5 hl5 hd2 hl1 KO KD KM K0 K1 HT
        go_wp2_with fail
        go_roundw
        case rel => exact ⟨k + 1, _, by omega, by go_num, T0.out, T1.out, by rw [HF.out]; exact TO.out, by simp only [World.size_setCell]; exact TS, by rw [HS.out]; exact TD.out, TM.out⟩
        case measure => simp [intOf]; omega
    · obtain rfl : k = 3 := by omega
      obtain ⟨g, cap, rfl, hg, hc, hrow⟩ := RowV.of_owns hown (by omega)
      have K0 := Lib.hid hB0
      have K1 := Lib.hid hB1
      have KD := Lib.hid hD
      have KM := Lib.hid hM
      have KR := Lib.hid hrow
      have hgZ : g ≠ Z0 := by omega
      have hgD : w.heap.size ≤ g := by omega
      have hc0 := hB0.cell
      have hf0 := hB0.free
      have hl0 := hB0.lt
      have hc1 := hB1.cell
      have hf1 := hB1.free
      have hl1 := hB1.lt
      clear hB0 hB1 hown hD hM hrow M3 B03 B13 D3 k0 hb4 hz hc
      go_wp2_with fail
      obtain ⟨Wz, he, c0, c1, c2, hDD, hMM, hcz⟩ := nxt_fin0 KM.out KD.out K0.out hZ0 (Nat.le_of_eq hzz) (.int .i64 15) (.slice none 0 0) (.slice (some ⟨g, 0, none⟩) 3 cap)
      have hgl : g < Wz.heap.size := by rw [← he]; simp only [World.size_setCell]; exact KR.out.lt
      have HRz := Lib.hid (show FarRow w.heap.size Wz (some ⟨g, 0, none⟩) ((txC t4 3).map Value.string) from fun _ => ⟨g, 0, rfl, hgD, hgl, fun i v hv => by
        have hi : i < 3 := by have := (List.getElem?_eq_some_iff.1 hv).1; simpa [txC] using this
        rw [Nat.zero_add]
        refine (hcz g hgZ i).trans ((KR.out.cell i (by omega)).trans ?_)
        rw [List.getD_eq_getElem?_getD, hv]; rfl⟩)
      rw [he]
      have HD := Lib.hid hDD
      have HM := Lib.hid hMM
      clear he hDD hMM hc0 hf0 hc1 hf1 hcz
      exact bodyPost_ret (v := .tuple #[.agg #[.int .i64 15, .slice none 0 0, .slice (some ⟨g, 0, none⟩) 3 cap], .bool true]) (by simp [results, Try.results9, go_sem, c0, c1, c2]) rfl (HR.out _ _ ⟨_, rfl, ⟨_, _, _, _, rfl, FarRow.nil _ _ _, HRz.out⟩, HD.out, HM.out⟩)
end Go.Proofs.Ythkpmmkddgjhmaa
