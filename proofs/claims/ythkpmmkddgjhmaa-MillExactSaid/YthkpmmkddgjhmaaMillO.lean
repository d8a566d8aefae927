import Derived.Test.YthkpmmkddgjhmaaMillN
import Derived.Test.YthkpmmkddgjhmaaMillH
set_option linter.unusedSimpArgs false
set_option linter.unusedVariables false
namespace Go.Proofs.Ythkpmmkddgjhmaa
open Go Go.RowKit
/-- The die's state behind k orders; the k-th order. -/
def stO (zs : Nat → Int) (sz s : Int) : Nat → Int
  | 0 => s
  | k + 1 => (ordO (weighV zs 15 (stO zs sz s k)).toNat (1 + belV 4 (weighS zs 15 (stO zs sz s k))) sz (belS 4 (weighS zs 15 (stO zs sz s k)))).2
def itO (zs : Nat → Int) (sz s : Int) (k : Nat) : OV := (ordO (weighV zs 15 (stO zs sz s k)).toNat (1 + belV 4 (weighS zs 15 (stO zs sz s k))) sz (belS 4 (weighS zs 15 (stO zs sz s k)))).1
def ordL (zs : Nat → Int) (sz s : Int) (k : Nat) : List OV := (List.range k).map (itO zs sz s)
def OrdsX (w : World) (a : Option Addr) (L : List OV) : Prop := 0 < L.length → ∃ b o, a = some ⟨b, o, none⟩ ∧ b < w.heap.size ∧ ∀ i v, L[i]? = some v → w.cell? ⟨b, o + i, none⟩ = some (ordVal v)
def scriptN (zs : Nat → Int) (n : Int) : Nat := if posB zs 15 then (min (max n 0) 400).toNat else 0
def ScriptX (w : World) (zs : Nat → Int) (sz s n : Int) (e : Ending) (w' : World) : Prop := ∃ a c, e = .returned (.slice a (scriptN zs n) c) ∧ OrdsX w' a (ordL zs sz s (scriptN zs n)) ∧ Same w w'
theorem volO_u (k : Nat) (id s : Int) (h : U64 s) : U64 (volO k id s).2 := by
  unfold volO; split <;> (try dsimp only) <;> first | exact belS_u _ _ h | exact h
theorem rangeO_u (k : Nat) (id sz s : Int) (h : U64 s) : U64 (rangeO k id sz s).2 := by
  unfold rangeO; split <;> try dsimp only
  · exact belS_u _ _ (belS_u _ _ (belS_u _ _ h))
  · exact belS_u _ _ (belS_u _ _ h)
theorem ordO_u (k : Nat) (id sz s : Int) (h : U64 s) : U64 (ordO k id sz s).2 := by
  unfold ordO crashO; split <;> (try dsimp only) <;> first | exact rangeO_u _ _ _ _ h | exact belS_u _ _ h | exact h | exact belS_u _ _ (belS_u _ _ (belS_u _ _ h)) | exact volO_u _ _ _ h
theorem weighS_u (zs : Nat → Int) (k : Nat) (s : Int) (h : U64 s) : U64 (weighS zs k s) := by unfold weighS; split; exact h; exact belS_u _ _ h
theorem stO_u (zs : Nat → Int) (sz s : Int) (h : U64 s) : ∀ k, U64 (stO zs sz s k)
  | 0 => h
  | k + 1 => ordO_u _ _ _ _ (belS_u _ _ (weighS_u _ _ _ (stO_u zs sz s h k)))
theorem ordL_succ (zs : Nat → Int) (sz s : Int) (k : Nat) : ordL zs sz s (k + 1) = ordL zs sz s k ++ [itO zs sz s k] := by simp [ordL, List.range_succ]
theorem ordL_len (zs : Nat → Int) (sz s : Int) (k : Nat) : (ordL zs sz s k).length = k := by simp [ordL]
set_option maxRecDepth 10000 in
set_option maxHeartbeats 2000000 in
theorem script_x (s n : Int) (zs : Nat → Int) (x0 x1 x2 x3 : Int) (w : World) (hs : U64 s) :
    Calls Try.prog 6 #[.int .u64 s, .int .i64 n, .agg (a15 zs), .agg #[.int .i64 x0, .int .i64 x1, .int .i64 x2, .int .i64 x3]] w (ScriptX w zs (min (max x2 1) 8) s n) := by
  refine opq fun R HR => ?_
  have HN := Lib.hid (fun wz => dnew_any s wz)
  obtain ⟨cs, hcs⟩ : ∃ cs, a15 zs = cs := ⟨_, rfl⟩
  rw [hcs]
  go_enter Try.func6, Try.ntmps6
  go_upto_region 1 with fail
  have BA := Lib.hid ((Blk.new w cs 30).alloc (.cells #[.int .i64 x0, .int .i64 x1, .int .i64 x2, .int .i64 x3] 25))
  have BS := Lib.hid (Blk.new (w.alloc (.cells cs 30)) #[.int .i64 x0, .int .i64 x1, .int .i64 x2, .int .i64 x3] 25)
  have hsz0 : (w.alloc (.cells cs 30)).heap.size = w.heap.size + 1 := by simp
  rw [hsz0] at BS
  have SW := Lib.hid (((Mod.refl (fun _ => False) w).alloc (.cells cs 30)).alloc (.cells #[.int .i64 x0, .int .i64 x1, .int .i64 x2, .int .i64 x3] 25))
  have hszW : ((w.alloc (.cells cs 30)).alloc (.cells #[.int .i64 x0, .int .i64 x1, .int .i64 x2, .int .i64 x3] 25)).heap.size = w.heap.size + 2 := by simp
  generalize (w.alloc _).alloc _ = W at *
  have hx2 := BS.out.at_ (i := 2) (.int .i64 x2) rfl
  go_cut [9] from 12 to 19 (fun s9 wx => ∃ M D sz, s9 = dptr M ∧ 1 ≤ sz ∧ sz ≤ 8 ∧ sz = min (max x2 1) 8 ∧ MS wx M D sz s ∧ Blk wx w.heap.size cs ∧ w.heap.size < D ∧ w.heap.size < M ∧ Same w wx)
  case first => as_aux_lemma =>
   go_region_held3 (fun w' => w'.cell? ⟨w.heap.size + 1, 2, none⟩ = some (.int .i64 x2)) (first | exact hx2 | assumption | go_keep) ((
    first
    | (go_at_call 12; refine (HN.out _).mono ?_; rintro e w5 ⟨g, rfl, hg, hd, hM⟩; have HM := Lib.hid ((Mod.refl (fun _ => False) W).drew.same hM); have HD := Lib.hid hd; have hg' : w.heap.size + 2 ≤ g := (by rw [← hszW]; exact hg); have q := (BS.out.mod HM.out (fun q => q)).at_ (i := 2) (.int .i64 x2) rfl; clear hg hd hM)))
   all_goals
     try go_wp2_with fail
     go_meet
     exact ⟨w5.heap.size, g, _, rfl, by omega, by omega, rfl, ⟨Blk.new w5 _ _, HD.out.alloc _, fun e => by have := HD.out.lt; omega⟩, (BA.out.mod HM.out (fun q => q)).alloc _, by omega, by have := HD.out.lt; omega, (SW.out.same HM.out).alloc _⟩
  case rest => as_aux_lemma =>
   obtain ⟨M, D, sz, rfl, hz1, hz2, hsz, hms, hA, hAD, hAM, hS⟩ := hcut
   rw [← hsz] at HR
   clear hsz
   obtain ⟨kn, hkn⟩ : ∃ kn : Nat, min (max n 0) 400 = (kn : Int) := ⟨(min (max n 0) 400).toNat, by omega⟩
   have hkn4 : kn ≤ 400 := by omega
   have HK := Lib.hid hkn
   have HA := Lib.hid hA
   have HMS := Lib.hid hms
   have HS := Lib.hid hS
   obtain ⟨i0, hi, hzz0, hzz1, hzz2⟩ := info_parts info34
   have HI0 := Lib.hid hi
   have HZ0 := Lib.hid hzz0
   have HZ1 := Lib.hid hzz1
   have HZ2 := Lib.hid hzz2
   have hDlt := hms.d.lt
   have hMlt := hms.m.lt
   have hAlt := hA.lt
   clear hA hms hS hi hzz0 hzz1 hzz2 BA BS SW hszW hx2 HN hsz0
   go_wp2_with fail
   skip
   clear hkn
   go_loopw [23, 10, 11] (fun i v _ wr => ∃ (k : Nat), k ≤ kn ∧ i = .int .i64 k ∧ wr.ownsRow wc.heap.size 34 1 v k ((ordL zs sz s k).map ordVal) ∧ MS wr M D sz (stO zs sz s k) ∧ Mod (fun i => i = D) wc wr ∧ (0 < k → posB zs 15 = true)) (fun i _ _ _ => kn - (intOf i).toNat)
   case atStart => exact ⟨0, by omega, rfl, World.ownsRow_nil _ _ _ _, HMS.out, Mod.refl _ _, fun q => absurd q (by omega)⟩
   case round =>
     obtain ⟨k, hk, rfl, hown, hms, hM, hpos⟩ := hrel
     have hu := stO_u zs sz s hs k
     have HSU := Lib.hid (ordL_succ zs sz s k)
     have HSS := Lib.hid (show stO zs sz s (k + 1) = (ordO (weighV zs 15 (stO zs sz s k)).toNat (1 + belV 4 (weighS zs 15 (stO zs sz s k))) sz (belS 4 (weighS zs 15 (stO zs sz s k)))).2 from rfl)
     have HSI := Lib.hid (show itO zs sz s k = (ordO (weighV zs 15 (stO zs sz s k)).toNat (1 + belV 4 (weighS zs 15 (stO zs sz s k))) sz (belS 4 (weighS zs 15 (stO zs sz s k)))).1 from rfl)
     generalize ht : stO zs sz s k = t at *
     generalize hxx : (ordL zs sz s k).map ordVal = xs at *
     have HXX := Lib.hid hxx
     clear ht hxx
     by_cases hlt : k < kn
     · have K1 := Lib.hid hown
       have K3 := Lib.hid hms
       have K4 := Lib.hid hM
       have hcm := hms.m.cell
       have hwsz : wc.heap.size ≤ wr.heap.size := hM.size
       have HW := Lib.hid (fun wz (hd : DS wz D t) (hi : IntsAt wz D (some ⟨w.heap.size, 0, none⟩) 15 zs) => dweigh_any D t (some ⟨w.heap.size, 0, none⟩) 15 15 zs wz hd hu (by decide) hi)
       have HU := Lib.hid (show U64 (weighS zs 15 t) by unfold weighS; split; exact hu; exact belS_u _ _ hu)
       have HI := Lib.hid (show IntsAt wr.drew D (some ⟨w.heap.size, 0, none⟩) 15 zs from by rw [← hcs] at HA; exact a15_ints zs (HA.out.mod hM (by omega)).drew (by omega))
       have hwv := weigh_spec zs 15 t
       generalize weighV zs 15 t = v at *
       generalize weighS zs 15 t = t1 at *
       clear hown hms hM hu
       rcases hwv with ⟨rfl, hp⟩ | ⟨j, hj, rfl, hjz, hp⟩
       · go_wp2_with fail
         go_region_held3 (fun w' => w'.cell? ⟨M, 0, none⟩ = some (dptr D)) (first | exact hcm 0 | assumption | go_keep) ((
           first
           | (go_at_call 13; refine (HW.out _ K3.out.d.drew HI.out).mono ?_; rintro e w5 ⟨rfl, h1, M1⟩; have L1 := Lib.hid (K3.out.drew.next h1 M1); have L2 := Lib.hid (K4.out.drew.trans M1); have L3 := Lib.hid ((Mod.refl (fun i => i = D) wr).drew.trans M1); have q := L1.out.m.at_ (i := 0) (dptr D) rfl; clear h1 M1)))
         go_wp2
         have h0 : scriptN zs n = 0 := by unfold scriptN; rw [hp]; rfl
         exact HR.out _ _ ⟨none, 0, by rw [h0]; rfl, fun q => absurd q (by rw [h0, ordL_len]; omega), HS.out.then_ L2.out (fun i hi (e : i = D) => by omega)⟩
       · go_wp2_with fail
         go_region_held3 (fun w' => w'.cell? ⟨M, 0, none⟩ = some (dptr D)) (first | exact hcm 0 | assumption | go_keep) ((
           first
           | (go_at_call 13; refine (HW.out _ K3.out.d.drew HI.out).mono ?_; rintro e w5 ⟨rfl, h1, M1⟩; have L1 := Lib.hid (K3.out.drew.next h1 M1); have L2 := Lib.hid (K4.out.drew.trans M1); have L3 := Lib.hid ((Mod.refl (fun i => i = D) wr).drew.trans M1); have q := L1.out.m.at_ (i := 0) (dptr D) rfl; clear h1 M1)))
         have HO := Lib.hid (order_x j (j : Int) rfl hj M D sz t1 w5 L1.out HU.out ⟨hz1, hz2⟩)
         have HSS2 := Lib.hid (show stO zs sz s (k + 1) = (ordO j (1 + belV 4 t1) sz (belS 4 t1)).2 from by have := HSS.out; simpa using this)
         have HSI2 := Lib.hid (show itO zs sz s k = (ordO j (1 + belV 4 t1) sz (belS 4 t1)).1 from by have := HSI.out; simpa using this)
         clear HSS HSI
         generalize (ordO j (1 + belV 4 t1) sz (belS 4 t1)).1 = oo at *
         generalize (ordO j (1 + belV 4 t1) sz (belS 4 t1)).2 = t2 at *
         obtain ⟨T, x, hov⟩ : ∃ T x, ordVal oo = .iface T x := ⟨_, _, rfl⟩
         rw [hov] at HO
         have HOV := Lib.hid hov
         clear hov
         have hj0 : ¬ (j : Int) < 0 := by omega
         go_wp2_with fail
         refine HO.out.mono ?_
         rintro e w6 ⟨rfl, h1, M1⟩
         have N1 := Lib.hid (L1.out.next h1 M1)
         have N2 := Lib.hid (L2.out.trans M1)
         have K5 := Lib.hid (own_mod K1.out (L3.out.trans M1) hDlt)
         clear h1 M1 L1 L2 HO hj0
         have hq : w6.heap.size ≥ wc.heap.size := N2.out.size
         go_wp2_with (at_builtin; refine wpList_append_own _ rfl (.tmp 33) (.tmp 37) 27 rfl wc.heap.size 34 i0 .nilIface 1 16 Try.underlying27 HI0.out HZ0.out HZ1.out HZ2.out rfl (by decide) _ _ _ rfl (K5.out.alloc _) ⟨w6.heap.size, 0, none⟩ 1 1 [.iface T x] rfl rfl (one_new _ _ _) (fun u hu => (by simp at hu; subst hu; rfl)) (by unfold maxLen; omega) (by omega) (by simp only [World.size_alloc]; omega) ?_; intro v' w7 hown' hgrow _)
         have P1 := Lib.hid (same_append N2.out K5.out hgrow)
         have P2 := Lib.hid hown'
         have P3 := Lib.hid (show MS w7 M D sz t2 from ⟨blk_append N1.out.m hMlt K5.out hgrow, blk_append N1.out.d hDlt K5.out hgrow, N1.out.ne⟩)
         clear hown' hgrow
         go_wp2
         go_roundw
         case rel => exact ⟨k + 1, by omega, by go_num, by rw [HSU.out, List.map_append, HXX.out, List.map_singleton, HSI2.out, HOV.out]; exact P2.out, by rw [HSS2.out]; exact P3.out, P1.out, fun _ => hp⟩
         case measure => simp [intOf]; omega
     · obtain rfl : k = kn := by omega
       have HP := Lib.hid hpos
       have KO := Lib.hid hown
       have KM := Lib.hid hM
       clear hown hms hM hu hpos
       by_cases hk0 : 0 < k
       · obtain ⟨g, cap, rfl, hb, hc, hrow⟩ := RowV.of_owns KO.out hk0
         have HRw := Lib.hid hrow
         clear hrow hc hb
         have hk' : scriptN zs n = k := by unfold scriptN; rw [if_pos (HP.out hk0), HK.out]; simp
         have HR2 := HR.out
         unfold ScriptX at HR2
         rw [hk'] at HR2
         have HR3 := Lib.hid HR2
         clear HR2 hk'
         go_wp2
         refine HR3.out _ _ ⟨_, _, rfl, fun _ => ⟨g, 0, rfl, HRw.out.lt, fun i v hi => ?_⟩, HS.out.then_ KM.out (fun i hi (e : i = D) => by omega)⟩
         have hik : i < k := by have := (List.getElem?_eq_some_iff.1 hi).1; rwa [ordL_len] at this
         rw [Nat.zero_add]
         refine (HRw.out.cell i (by omega)).trans ?_
         rw [← HXX.out, List.getD_eq_getElem?_getD, List.getElem?_map, hi]; rfl
       · obtain rfl : k = 0 := by omega
         have hv : ∃ a c, u10 = .slice a 0 c := by
           rcases KO.out.2 with ⟨rfl, _⟩ | ⟨g, cap, cur, rfl, _⟩
           · exact ⟨_, _, rfl⟩
           · exact ⟨_, _, rfl⟩
         obtain ⟨a, c, rfl⟩ := hv
         go_wp2
         have h0 : scriptN zs n = 0 := by unfold scriptN; rw [HK.out]; split <;> rfl
         exact HR.out _ _ ⟨_, _, by rw [h0]; rfl, fun q => absurd q (by rw [h0, ordL_len]; omega), HS.out.then_ KM.out (fun i hi (e : i = D) => by omega)⟩
end Go.Proofs.Ythkpmmkddgjhmaa
