import Derived.Test.YthkpmmkddgjhmaaMillEA
import Derived.Test.YthkpmmkddgjhmaaMillJ
import Derived.Test.YthkpmmkddgjhmaaMillZ
import Derived.Test.YthkpmmkddgjhmaaMillED
import Derived.Test.YthkpmmkddgjhmaaMillEC
import Derived.Deep.MidRow
import Derived.Deep.CutBlock
import Derived.Deep.DeepCutAuto
set_option linter.unusedSimpArgs false
set_option linter.unusedVariables false
namespace Go.Proofs.Ythkpmmkddgjhmaa
open Go Go.RowKit
theorem info29 : (Try.prog.info? 29).map (·.size) = some 15 := by kernel_rfl
theorem under29 : Try.prog.underlying 29 = some (.array 15 3) := Try.underlying29
theorem e_du64 (n : Int) : 0 ≤ IntKind.u64.wrap n ∧ IntKind.u64.wrap n ≤ 18446744073709551615 := by
  unfold IntKind.wrap; simp [IntKind.signed, IntKind.bits]; omega
theorem e_dmod (n k : Int) (hk : 0 < k) : 0 ≤ (IntKind.u64.wrap n).tmod k ∧ (IntKind.u64.wrap n).tmod k < k :=
  ⟨Int.tmod_nonneg _ (e_du64 n).1, Int.tmod_lt_of_pos _ hk⟩
set_option maxRecDepth 10000 in
set_option maxHeartbeats 16000000 in
theorem millExact_walk (s n size : Int) (zs : Nat → Int) (w : World) (hs : U64 s) : Calls Try.prog 4 #[.int .u64 s, .int .i64 n, .agg (a15 zs), .int .i64 size] w fun e w' => e = .returned (.bool true) ∧ Below w.heap.size w w' := by
  refine opq fun R HR => ?_
  have HA := Lib.hid (fun wz => mawake_any wz)
  obtain ⟨hn1, hn2⟩ := e_dmod n 64 (by omega)
  go_enter Try.func4, Try.ntmps4
  go_wp2_with fail
  refine (HA.out _).mono ?_
  have B6 := Lib.hid (Blk.new w (a15 zs) 29)
  have SW := Lib.hid ((Mod.refl (fun _ => False) w).alloc (.cells (a15 zs) 29))
  generalize w.alloc _ = W at *
  rintro e w1 ⟨rfl, M1⟩
  have B61 := Lib.hid (B6.out.mod M1 (fun q => q))
  have S1 := Lib.hid (SW.out.same M1)
  clear M1 B6 SW HA
  have hZ := Lib.hid (Eq.refl w.heap.size)
  generalize hZZ : w.heap.size = Z at B61 ⊢
  have hcy := B61.out.cell
  go_upto_region 4 with fail
  generalize (IntKind.u64.wrap n).tmod 64 = k1 at *
  go_wp2_with fail
  obtain ⟨kk, hkk⟩ : ∃ kk, k1 - 3 = kk := ⟨_, rfl⟩
  have hk1 : -3 ≤ kk := by omega
  have hk2 : kk ≤ 60 := by omega
  rw [hkk]
  clear hn1 hn2 hkk hcy
  refine (script_x s kk zs 0 0 size 0 w1 hs).mono ?_
  rintro e w2 ⟨la, lc, rfl, ho, M2⟩
  have HO := Lib.hid ho
  have B62 := Lib.hid (B61.out.mod M2 (fun q => q))
  have S2 := Lib.hid (S1.out.same M2)
  clear M2 ho B61 S1
  go_upto_block 0 with fail
  obtain ⟨sz, hsz⟩ : ∃ sz, min (max size 1) 8 = sz := ⟨_, rfl⟩
  have hz1 : 1 ≤ sz ∧ sz ≤ 8 := by omega
  rw [hsz] at HO ⊢
  clear hsz
  have D0 := Lib.hid (show DS (w2.alloc (.cells #[.int .u64 s] 40)) w2.heap.size s from Blk.new w2 _ _)
  have B63 := Lib.hid (B62.out.alloc (.cells #[.int .u64 s] 40))
  have S3 := Lib.hid ((Mod.refl (fun _ => False) w2).alloc (.cells #[.int .u64 s] 40))
  have hD0 : (w2.alloc (.cells #[.int .u64 s] 40)).heap.size = w2.heap.size + 1 := by simp
  rw [← hD0]
  have hZ2 := B62.out.lt
  generalize w2.alloc _ = W0 at *
  generalize hDD : w2.heap.size = D at *
  have hDb : D < W0.heap.size := by omega
  clear hD0
  obtain ⟨i0, hi, hzz0, hzz1, hzz2⟩ := info_parts info45
  have HI0 := Lib.hid hi
  have HZ0 := Lib.hid hzz0
  have HZ1 := Lib.hid hzz1
  have HZ2 := Lib.hid hzz2
  clear hi hzz0 hzz1 hzz2
  go_cut [13] (fun v wx => ∃ xs, wx.ownsRow W0.heap.size 45 3 v (scriptN zs kk) xs ∧ Wants D v.ownBlock wx (ordL zs sz s (scriptN zs kk)) xs ∧ Mod (fun i => i = D) W0 wx)
  case first => as_aux_lemma =>
    obtain ⟨kn, hkn⟩ : ∃ kn : Nat, kn = kk.toNat := ⟨_, rfl⟩
    go_wp2_with fail
    go_loopw [14, 13, 15, 16] (fun i v _ _ wr => ∃ (k : Nat) (xs : List Value), k ≤ kn ∧ i = .int .i64 k ∧ wr.ownsRow W0.heap.size 45 3 v k xs ∧ Wants D v.ownBlock wr (ordL zs sz s k) xs ∧ DS wr D (stO zs sz s k) ∧ Mod (fun i => i = D) W0 wr ∧ (0 < k → posB zs 15 = true)) (fun i _ _ _ _ => kn - (intOf i).toNat)
    case atStart => exact ⟨0, [], by omega, rfl, ⟨rfl, .inr ⟨_, 0, #[], rfl, Nat.le_refl _, heap_new _ _, by omega, by unfold maxLen; omega, rfl, rfl⟩⟩, Wants.nil _ _ _, D0.out.alloc _, (Mod.refl _ _).alloc _, fun q => absurd q (by omega)⟩
    case round =>
      obtain ⟨k, xs, hk, rfl, hown, hwant, hds, hM, hpos⟩ := hrel
      have hu := stO_u zs sz s hs k
      have HSU := Lib.hid (ordL_succ zs sz s k)
      have HSS := Lib.hid (show stO zs sz s (k + 1) = (ordO (weighV zs 15 (stO zs sz s k)).toNat (1 + belV 4 (weighS zs 15 (stO zs sz s k))) sz (belS 4 (weighS zs 15 (stO zs sz s k)))).2 from rfl)
      have HSI := Lib.hid (show itO zs sz s k = (ordO (weighV zs 15 (stO zs sz s k)).toNat (1 + belV 4 (weighS zs 15 (stO zs sz s k))) sz (belS 4 (weighS zs 15 (stO zs sz s k)))).1 from rfl)
      generalize stO zs sz s k = t at *
      have K1 := Lib.hid hown
      have K2 := Lib.hid hwant
      have K3 := Lib.hid hds
      have K4 := Lib.hid hM
      have HP := Lib.hid hpos
      have hkk := Lib.hid hkn
      by_cases hlt : (k : Int) < kk
      · have hDlt := hds.lt
        have hIA := Lib.hid (a15_ints zs (B63.out.mod hM (by omega)) (by omega : Z ≠ D))
        have hwsz : W0.heap.size ≤ wr.heap.size := hM.size
        have hwv := weigh_spec zs 15 t
        clear hown hwant hds hM hpos hkn
        rcases hwv with ⟨hv, hp⟩ | ⟨j, hj, hv, hjz, hp⟩
        · have HN := Lib.hid (next_none D Z zs sz t wr K3.out hu hIA.out hv)
          clear hv HSU HSS HSI
          go_wp2_with fail
          refine HN.out.mono ?_
          rintro e w5 ⟨rfl, _, M5⟩
          have J := Lib.hid (K4.out.trans M5)
          have K5 := Lib.hid (own_mod K1.out M5 (by omega))
          have K6 := Lib.hid (K2.out.mod M5)
          clear M5 K1 K2 K3 K4 HN
          go_wp2_with fail
          go_meet
          have hk0 : k = 0 := by
            rcases Nat.eq_zero_or_pos k with q | q
            · exact q
            · have := HP.out q; rw [hp] at this; cases this
          have h0 : scriptN zs kk = k := by rw [hk0]; exact scriptN_none zs kk hp
          rw [h0]
          exact ⟨xs, K5.out.alloc _, K6.out.mod ((Mod.refl _ w5).alloc _), J.out.alloc _⟩
        · have HN := Lib.hid (next_any j hj D Z zs sz t wr K3.out hu hIA.out hv hz1)
          rw [hv, Int.toNat_natCast] at HSS HSI
          clear hv
          generalize ordO j (1 + belV 4 (weighS zs 15 t)) sz (belS 4 (weighS zs 15 t)) = oo at *
          go_wp2_with fail
          refine HN.out.mono ?_
          rintro e w5 ⟨_, rfl, ⟨a1, c1, a2, c2, rfl, hr1, hr2⟩, hd5, M5⟩
          have J := Lib.hid (K4.out.trans M5)
          have K5 := Lib.hid (own_mod K1.out M5 (by omega))
          have K6 := Lib.hid ((K2.out.mod M5).snoc oo.1 a1 a2 c1 c2 (hr1.away hDlt (owns_lt K1.out)) (hr2.away hDlt (owns_lt K1.out)))
          have K7 := Lib.hid hd5
          have hw5 : W0.heap.size ≤ w5.heap.size := J.out.size
          clear M5 K1 K2 K3 K4 HN hr1 hr2 hd5
          generalize oo.1.nums.length = n1 at *
          generalize oo.1.data.length = n2 at *
          go_wp2_with (at_builtin; refine wpList_append_lies _ rfl (.tmp 55) (.tmp 57) 41 rfl W0.heap.size 45 i0 (.agg #[.int .i64 0, .slice none 0 0, .slice none 0 0]) 3 56 Try.underlying41 HI0.out HZ0.out HZ1.out HZ2.out rfl (by decide) _ _ _ rfl ((K5.out.alloc _).alloc _) ⟨w5.heap.size + 1, 0, none⟩ 1 1 [.int .i64 ((oo.1.k : Int) + 1), .slice a1 n1 c1, .slice a2 n2 c2] rfl rfl (by have := three_new (w5.alloc (.cells #[.int .i64 ((oo.1.k : Int) + 1), .slice a1 n1 c1, .slice a2 n2 c2] 45)) (.int .i64 ((oo.1.k : Int) + 1)) (.slice a1 n1 c1) (.slice a2 n2 c2) 45; simp only [World.size_alloc] at this; exact this) (fun u hu => (by simp at hu; rcases hu with rfl | rfl | rfl <;> rfl)) (by omega) (by unfold maxLen; omega) (by omega) (by simp only [World.size_alloc]; omega) _ rfl ?_; intro g cap w7 hown' hgrow hgg hgl)
          have P1 := Lib.hid (same_append (J.out.alloc _) (K5.out.alloc _) hgrow)
          have P2 := Lib.hid hown'
          have P3 := Lib.hid (blk_append (K7.out.alloc _) hDb (K5.out.alloc _) hgrow)
          have P4 := Lib.hid ((K6.out.mod (((Mod.refl (fun i => i = D) w5).alloc _).alloc _)).grown hgrow (g := g) (hgg.imp id (fun e => Nat.le_of_eq e.symm)))
          clear hown' hgrow hgg hgl
          go_roundw
          case rel => exact ⟨k + 1, _, by have := hkk.out; omega, by go_num, P2.out, by rw [HSU.out, HSI.out]; exact P4.out, by rw [HSS.out]; exact P3.out, P1.out, fun _ => hp⟩
          case measure => have := hkk.out; simp [intOf]; omega
      · have hkn' : k = kk.toNat := by omega
        have h0 : scriptN zs kk = k := by
          rcases Nat.eq_zero_or_pos k with q | q
          · rw [q]; exact scriptN_low zs kk (by omega)
          · rw [scriptN_pos zs kk (hpos q) (by omega)]; omega
        have H0 := Lib.hid h0
        clear hown hwant hds hM hpos hkn hkn' HSU HSS HSI h0
        go_wp2_with fail
        go_meet
        rw [H0.out]
        exact ⟨xs, K1.out, K2.out, K4.out⟩
  case rest =>
    obtain ⟨xs, hown, hwant, hM⟩ := hcut
    obtain ⟨wa, wcap, rfl⟩ := owns_slice hown
    have HF := Lib.hid (fun k => form_ord zs sz s k hz1)
    have M0 : Same w2 wc := S3.out.then_ hM (fun i hi e => by omega)
    have HOC := Lib.hid (show OrdsX wc la (ordL zs sz s (scriptN zs kk)) from fun q => by
      obtain ⟨b, o, ha, hb, hc⟩ := HO.out q
      exact ⟨b, o, ha, Nat.lt_of_lt_of_le hb M0.size, fun i v hv => (M0.cell hb (fun q => q) _).trans (hc i v hv)⟩)
    have B6c := Lib.hid (B62.out.mod M0 (fun q => q))
    have S4 := Lib.hid (S2.out.same M0)
    have KO := Lib.hid hown
    have KW := Lib.hid hwant
    have hm60 : scriptN zs kk ≤ 400 := by unfold scriptN; split <;> omega
    clear hown hwant hM M0 HO B62 S2 B63 S3 D0 hDb hDD hZ2 HI0 HZ0 HZ1 HZ2
    generalize hm : scriptN zs kk = m at *
    clear hm hk1 hk2
    go_wp2_with fail
    go_loopw [17] (fun i wr => ∃ k : Nat, k ≤ m ∧ i = .int .i64 k ∧ Same wc wr) (fun i _ => m - (intOf i).toNat)
    case atStart => exact ⟨0, by omega, rfl, Mod.refl _ _⟩
    case round =>
      obtain ⟨k, hk, rfl, M⟩ := hrel
      by_cases hlt : k < m
      · obtain ⟨b, o, rfl, hb, hc⟩ := HOC.out (by rw [ordL_len]; omega)
        have hit : (ordL zs sz s m)[k]? = some (itO zs sz s k) := by unfold ordL; rw [List.getElem?_map, List.getElem?_range hlt]; rfl
        obtain ⟨hj, hl1, hl2, hform⟩ := HF.out k
        have hl := (M.cell hb (fun q => q) _).trans (hc k _ hit)
        obtain ⟨a1, c1, a2, c2, e0, e1, e2, r1, r2⟩ := KW.out.2 k _ hit
        obtain ⟨g, gcap, hgv, hg0, hg1, hrow⟩ := RowV.of_owns KO.out (by omega)
        cases hgv
        have hw0 := (M.cell hrow.lt (fun q => q) (k * 3)).trans (hrow.cell (k * 3) (by omega))
        have hw1 := (M.cell hrow.lt (fun q => q) (k * 3 + 1)).trans (hrow.cell (k * 3 + 1) (by omega))
        have hw2 := (M.cell hrow.lt (fun q => q) (k * 3 + 2)).trans (hrow.cell (k * 3 + 2) (by omega))
        rw [List.getD_eq_getElem?_getD, e0, Option.getD_some] at hw0
        rw [List.getD_eq_getElem?_getD, e1, Option.getD_some] at hw1
        rw [List.getD_eq_getElem?_getD, e2, Option.getD_some] at hw2
        have hbr : b < wr.heap.size := Nat.lt_of_lt_of_le hb M.size
        have hgr : g < wr.heap.size := Nat.lt_of_lt_of_le hrow.lt M.size
        have R1 := Lib.hid (r1.row.keep M)
        have R2 := Lib.hid (r2.row.keep M)
        have J5 := Lib.hid M
        have hki1 : (0 : Int) ≤ (k : Int) := by omega
        have hki2 : (k : Int) < (m : Int) := by omega
        generalize itO zs sz s k = oo at *
        obtain ⟨T, x, hov⟩ := ordVal_iface oo
        rw [hov] at hl hform
        have HFm := Lib.hid hform
        have HS := Lib.hid (fun w a3 c3 a4 c4 h1 h2 h3 h4 => same_of ((oo.k : Int) + 1) oo.nums oo.data a3 a4 a1 a2 c3 c4 c1 c2 w hl1 hl2 h1 h2 h3 h4)
        clear hc hit e0 e1 e2 r1 r2 hrow M hov hform hg0 hg1 hb
        generalize oo.nums.length = n1 at *
        generalize oo.data.length = n2 at *
        generalize (oo.k : Int) + 1 = kq at *
        go_wp2_with fail
        go_region_held3 (fun w' => w'.cell? ⟨b, o + k, none⟩ = some (.iface T x) ∧ w'.cell? ⟨g, k * 3, none⟩ = some (.int .i64 kq) ∧ w'.cell? ⟨g, k * 3 + 1, none⟩ = some (.slice a1 n1 c1) ∧ w'.cell? ⟨g, k * 3 + 2, none⟩ = some (.slice a2 n2 c2)) (first | exact ⟨hl, hw0, hw1, hw2⟩ | assumption | exact ⟨by assumption, by assumption, by assumption, by assumption⟩ | go_keep) ((
          first
          | (go_at_call 11; refine (HFm.out _).mono ?_; rintro e w5 ⟨a3, c3, a4, c4, rfl, q1, q2, M5⟩; have A5 := Lib.hid ((Mod.refl (fun _ => False) wr).drew.same M5); have Q1 := Lib.hid q1; have Q2 := Lib.hid q2; have p0 := (A5.out.cell hbr (fun q => q) _).trans hl; have p1 := (A5.out.cell hgr (fun q => q) _).trans hw0; have p2 := (A5.out.cell hgr (fun q => q) _).trans hw1; have p3 := (A5.out.cell hgr (fun q => q) _).trans hw2; clear q1 q2 M5)
          | (go_at_call 10; refine (HS.out _ _ _ _ _ Q1.out Q2.out (R1.out.keep A5.out) (R2.out.keep A5.out)).mono ?_; rintro e w6 ⟨rfl, M6⟩; have A6 := Lib.hid (A5.out.same M6); have p4 := (A6.out.cell hbr (fun q => q) _).trans hl; have p5 := (A6.out.cell hgr (fun q => q) _).trans hw0; have p6 := (A6.out.cell hgr (fun q => q) _).trans hw1; have p7 := (A6.out.cell hgr (fun q => q) _).trans hw2; clear M6)))
        all_goals
          have K9 := Lib.hid (J5.out.same A6.out)
          clear A5 A6 J5 Q1 Q2 R1 R2 HS HFm
          go_wp2
          go_roundw
          case rel => exact ⟨k + 1, by omega, by go_num, K9.out⟩
          case measure => simp [intOf]; omega
      · obtain rfl : k = m := by omega
        have B6d := Lib.hid (B6c.out.mod M (fun q => q))
        have S5 := Lib.hid (S4.out.same M)
        clear M HOC KO KW B6c S4 HF
        go_wp2_with fail
        refine (usual_any _).mono ?_
        rintro e w5 ⟨rfl, M5⟩
        have B6e := Lib.hid (B6d.out.mod M5 (fun q => q))
        have S6 := Lib.hid (S5.out.same M5)
        clear M5 B6d S5
        have hZl := B6e.out.lt
        have hZc := B6e.out.cell
        go_wp2_with fail
        refine (calm_any zs _).mono ?_
        have BU := Lib.hid (Blk.new w5 #[.int .i64 2, .int .i64 1, .int .i64 3, .int .i64 1, .int .i64 1, .int .i64 1, .int .i64 5, .int .i64 8, .int .i64 3, .int .i64 2, .int .i64 5, .int .i64 1, .int .i64 1, .int .i64 1, .int .i64 1] 30)
        have B6f := Lib.hid (B6e.out.alloc (.cells #[.int .i64 2, .int .i64 1, .int .i64 3, .int .i64 1, .int .i64 1, .int .i64 1, .int .i64 5, .int .i64 8, .int .i64 3, .int .i64 2, .int .i64 5, .int .i64 1, .int .i64 1, .int .i64 1, .int .i64 1] 30))
        have S7 := Lib.hid (S6.out.alloc (.cells #[.int .i64 2, .int .i64 1, .int .i64 3, .int .i64 1, .int .i64 1, .int .i64 1, .int .i64 5, .int .i64 8, .int .i64 3, .int .i64 2, .int .i64 5, .int .i64 1, .int .i64 1, .int .i64 1, .int .i64 1] 30))
        clear hZl hZc B6e S6
        generalize hU : w5.heap.size = U at *
        generalize w5.alloc _ = W5 at *
        clear hU
        rintro e w6 ⟨rfl, M6⟩
        have BU6 := Lib.hid (BU.out.mod M6 (fun q => q))
        have B66 := Lib.hid (B6f.out.mod M6 (fun q => q))
        have S8 := Lib.hid (S7.out.same M6)
        clear M6 BU B6f S7
        go_upto_block 4 with fail
        have BC := Lib.hid (Blk.new w6 #[.int .i64 (zs 0), .int .i64 (zs 1), .int .i64 (zs 2), .int .i64 (zs 3), .int .i64 (zs 4), .int .i64 (zs 5), .int .i64 (zs 6), .int .i64 (zs 7), .int .i64 (zs 8), .int .i64 (zs 9), .int .i64 (zs 10), .int .i64 (zs 11), .int .i64 (zs 12), .int .i64 0, .int .i64 0] 30)
        have BCM := Lib.hid (fun (wz : World) (M : Same (w6.alloc (.cells #[.int .i64 (zs 0), .int .i64 (zs 1), .int .i64 (zs 2), .int .i64 (zs 3), .int .i64 (zs 4), .int .i64 (zs 5), .int .i64 (zs 6), .int .i64 (zs 7), .int .i64 (zs 8), .int .i64 (zs 9), .int .i64 (zs 10), .int .i64 (zs 11), .int .i64 (zs 12), .int .i64 0, .int .i64 0] 30)) wz) => ((Mod.refl (fun _ => False) w6).alloc (.cells #[.int .i64 (zs 0), .int .i64 (zs 1), .int .i64 (zs 2), .int .i64 (zs 3), .int .i64 (zs 4), .int .i64 (zs 5), .int .i64 (zs 6), .int .i64 (zs 7), .int .i64 (zs 8), .int .i64 (zs 9), .int .i64 (zs 10), .int .i64 (zs 11), .int .i64 (zs 12), .int .i64 0, .int .i64 0] 30)).same M)
        generalize hC : w6.heap.size = C at *
        generalize w6.alloc _ = W8 at *
        clear hC
        go_wp2_with fail
        go_loopw [20] (fun i wr => ∃ q : Nat, q ≤ 15 ∧ i = .int .i64 q ∧ Same W8 wr) (fun i _ => 15 - (intOf i).toNat)
        case atStart => exact ⟨0, by omega, rfl, Mod.refl _ _⟩
        case round =>
        obtain ⟨q, hq, rfl, M⟩ := hrel
        by_cases hlt : q < 15
        · obtain ⟨u, ki, hu15⟩ := us_at q hlt
          obtain ⟨c, x, hc15, hx15, hcx⟩ := cw_at zs q hlt
          have f0 := (BU6.out.mod (BCM.out _ M) (fun q => q)).at_ (i := q) _ hu15
          have f1 := (BC.out.mod M (fun q => q)).at_ (i := q) _ hc15
          have f2 := (B66.out.mod (BCM.out _ M) (fun q => q)).at_ (i := q) _ hx15
          have J := Lib.hid M
          have hq1 : (0 : Int) ≤ (q : Int) := by omega
          have hq2 : (q : Int) < 15 := by omega
          clear M hu15 hc15 hx15
          rcases hcx with ⟨h13, rfl⟩ | ⟨h13, rfl⟩
          · have d1 : decide ((q : Int) < 13) = true := decide_eq_true (by omega)
            have d2 : decide (q < 13) = true := decide_eq_true h13
            have d3 : decide ((13 : Int) ≤ (q : Int)) = false := decide_eq_false (by omega)
            have d4 : decide (13 ≤ q) = false := decide_eq_false (by omega)
            clear HR BU6 B66 BC BCM S8 hZZ d2 d4 h13
            have K := Lib.hid J.out
            clear J
            go_wp2_with fail
            go_big_quiet (fail)
            go_wp2
            go_roundw
            case rel => exact ⟨q + 1, by omega, by go_num, K.out.drewN _⟩
            case measure => simp [intOf]; omega
          · have d1 : decide ((q : Int) < 13) = false := decide_eq_false (by omega)
            have d2 : decide (q < 13) = false := decide_eq_false h13
            have d3 : decide ((13 : Int) ≤ (q : Int)) = true := decide_eq_true (by omega)
            have d4 : decide (13 ≤ q) = true := decide_eq_true (by omega)
            clear HR BU6 B66 BC BCM S8 hZZ d2 d4 h13
            have K := Lib.hid J.out
            clear J
            go_wp2_with fail
            go_big_quiet (fail)
            go_wp2
            go_roundw
            case rel => exact ⟨q + 1, by omega, by go_num, K.out.drewN _⟩
            case measure => simp [intOf]; omega
        · obtain rfl : q = 15 := by omega
          have S9 := Lib.hid (S8.out.same (BCM.out _ M))
          clear M
          go_wp2
          exact HR.out _ _ ⟨rfl, (show Same w _ from S9.out).below⟩
end Go.Proofs.Ythkpmmkddgjhmaa
