import Derived.Test.YthkpmmkddgjhmaaMillG
import Derived.OwnWalk
import Derived.Test.YthkpmmkddgjhmaaRows2
set_option linter.unusedSimpArgs false
set_option linter.unusedVariables false
namespace Go.Proofs.Ythkpmmkddgjhmaa
open Go Go.RowKit
theorem info34 : (Try.prog.info? 34).map (fun i => (i.zero, i.size, i.bytes)) = some (some .nilIface, 1, 16) := by kernel_rfl
/-- Orders, each of a kind that has a weight. -/
def Ord (zs : Nat → Int) (v : Value) : Prop := ∃ j x, j < 15 ∧ 0 < zs j ∧ v = .iface (kT j) x
def OrdsAt (zs : Nat → Int) (w : World) (a : Option Addr) (l : Nat) : Prop := 0 < l → ∃ b o, a = some ⟨b, o, none⟩ ∧ b < w.heap.size ∧ ∀ i, i < l → ∃ v, Ord zs v ∧ w.cell? ⟨b, o + i, none⟩ = some v
def ScriptPost (w : World) (zs : Nat → Int) (n : Int) (e : Ending) (w' : World) : Prop := ∃ a l c, e = .returned (.slice a l c) ∧ (l : Int) = (if posB zs 15 then min (max n 0) 400 else 0) ∧ OrdsAt zs w' a l ∧ Same w w'
theorem own_mod {w w' : World} {base size n D : Nat} {e : TypeId} {v : Value} {xs : List Value} (h : w.ownsRow base e size v n xs) (M : Mod (fun i => i = D) w w') (hD : D < base) : w'.ownsRow base e size v n xs := by
  obtain ⟨hl, h0 | ⟨g, cap, cur, hv, hb, hh, r⟩⟩ := h
  · exact ⟨hl, .inl h0⟩
  · have hlt : g < w.heap.size := by
      rcases Nat.lt_or_ge g w.heap.size with q | q
      · exact q
      · rw [Array.getElem?_eq_none q] at hh; cases hh
    exact ⟨hl, .inr ⟨g, cap, cur, hv, hb, (M.block g hlt (fun (e : g = D) => by omega)).trans hh, r⟩⟩
theorem a15_get (zs : Nat → Int) (i : Nat) (hi : i < 15) : (a15 zs)[i]? = some (.int .i64 (zs i)) := by
  have h : i = 0 ∨ i = 1 ∨ i = 2 ∨ i = 3 ∨ i = 4 ∨ i = 5 ∨ i = 6 ∨ i = 7 ∨ i = 8 ∨ i = 9 ∨ i = 10 ∨ i = 11 ∨ i = 12 ∨ i = 13 ∨ i = 14 := by omega
  rcases h with rfl | rfl | rfl | rfl | rfl | rfl | rfl | rfl | rfl | rfl | rfl | rfl | rfl | rfl | rfl <;> rfl
theorem a15_ints (zs : Nat → Int) {w : World} {A D : Nat} (h : Blk w A (a15 zs)) (hD : A ≠ D) : IntsAt w D (some ⟨A, 0, none⟩) 15 zs :=
  fun _ => ⟨A, 0, rfl, h.lt, hD, fun i hi => by rw [Nat.zero_add]; exact (h.cell i).trans (a15_get zs i hi)⟩
set_option maxRecDepth 10000 in
set_option maxHeartbeats 2000000 in
theorem script_any (s n : Int) (zs : Nat → Int) (x0 x1 x2 x3 : Int) (w : World) (hs : U64 s) :
    Calls Try.prog 6 #[.int .u64 s, .int .i64 n, .agg (a15 zs), .agg #[.int .i64 x0, .int .i64 x1, .int .i64 x2, .int .i64 x3]] w (ScriptPost w zs n) := by
  refine opq fun R HR => ?_
  have HN := Lib.hid (fun wz => dnew_any s wz)
  obtain ⟨cs, hcs⟩ : ∃ cs, a15 zs = cs := ⟨_, rfl⟩
  rw [hcs]
  go_enter Try.func6, Try.ntmps6
  go_upto_region 1 with fail
  have BA := Lib.hid ((Blk.new w cs 30).alloc (.cells #[.int .i64 x0, .int .i64 x1, .int .i64 x2, .int .i64 x3] 25))
  have BS := Lib.hid (Blk.new (w.alloc (.cells cs 30)) #[.int .i64 x0, .int .i64 x1, .int .i64 x2, .int .i64 x3] 25)
  have hsz0 : (w.alloc (.cells cs 30)).heap.size = w.heap.size + 1 := by simp
  rw [hsz0] at BS
  have SW := Lib.hid (((Mod.refl (fun _ => False) w).alloc (.cells cs 30)).alloc (.cells #[.int .i64 x0, .int .i64 x1, .int .i64 x2, .int .i64 x3] 25))
  have hszW : ((w.alloc (.cells cs 30)).alloc (.cells #[.int .i64 x0, .int .i64 x1, .int .i64 x2, .int .i64 x3] 25)).heap.size = w.heap.size + 2 := by simp
  generalize (w.alloc _).alloc _ = W at *
  have hx2 := BS.out.at_ (i := 2) (.int .i64 x2) rfl
  go_cut [9] from 12 to 19 (fun s9 wx => ∃ M D sz, s9 = dptr M ∧ 1 ≤ sz ∧ sz ≤ 8 ∧ MS wx M D sz s ∧ Blk wx w.heap.size cs ∧ w.heap.size < D ∧ w.heap.size < M ∧ Same w wx)
  case first => as_aux_lemma =>
   go_region_held3 (fun w' => w'.cell? ⟨w.heap.size + 1, 2, none⟩ = some (.int .i64 x2)) (first | exact hx2 | assumption | go_keep) ((
    first
    | (go_at_call 12; refine (HN.out _).mono ?_; rintro e w5 ⟨g, rfl, hg, hd, hM⟩; have HM := Lib.hid ((Mod.refl (fun _ => False) W).drew.same hM); have HD := Lib.hid hd; have hg' : w.heap.size + 2 ≤ g := (by rw [← hszW]; exact hg); have q := (BS.out.mod HM.out (fun q => q)).at_ (i := 2) (.int .i64 x2) rfl; clear hg hd hM)))
   all_goals
     try go_wp2_with fail
     go_meet
     exact ⟨w5.heap.size, g, _, rfl, by omega, by omega, ⟨Blk.new w5 _ _, HD.out.alloc _, fun e => by have := HD.out.lt; omega⟩, (BA.out.mod HM.out (fun q => q)).alloc _, by omega, by have := HD.out.lt; omega, (SW.out.same HM.out).alloc _⟩
  case rest => as_aux_lemma =>
   obtain ⟨M, D, sz, rfl, hz1, hz2, hms, hA, hAD, hAM, hS⟩ := hcut
   obtain ⟨kn, hkn⟩ : ∃ kn : Nat, min (max n 0) 400 = (kn : Int) := ⟨(min (max n 0) 400).toNat, by omega⟩
   have hkn4 : kn ≤ 400 := by omega
   have HK := Lib.hid hkn
   have HA := Lib.hid hA
   have HMS := Lib.hid hms
   have HS := Lib.hid hS
   obtain ⟨i0, hi, hzz0, hzz1, hzz2⟩ := info_parts info34
   have HI0 := Lib.hid hi
   have HZ0 := Lib.hid hzz0
   have HZ1 := Lib.hid hzz1
   have HZ2 := Lib.hid hzz2
   have hDlt := hms.d.lt
   have hMlt := hms.m.lt
   have hAlt := hA.lt
   clear hA hms hS hi hzz0 hzz1 hzz2 BA BS SW hszW hx2 HN hsz0
   go_wp2_with fail
   skip
   clear hkn
   go_loopw [23, 10, 11] (fun i v _ wr => ∃ (k : Nat) (t : Int) (xs : List Value), k ≤ kn ∧ i = .int .i64 k ∧ wr.ownsRow wc.heap.size 34 1 v k xs ∧ (∀ u ∈ xs, Ord zs u) ∧ U64 t ∧ MS wr M D sz t ∧ Mod (fun i => i = D) wc wr ∧ (0 < k → posB zs 15 = true)) (fun i _ _ _ => kn - (intOf i).toNat)
   case atStart => exact ⟨0, s, [], by omega, rfl, World.ownsRow_nil _ _ _ _, (fun u hu => by cases hu), hs, HMS.out, Mod.refl _ _, fun q => absurd q (by omega)⟩
   case round =>
     obtain ⟨k, t, xs, hk, rfl, hown, hxs, hu, hms, hM, hpos⟩ := hrel
     by_cases hlt : k < kn
     · have K1 := Lib.hid hown
       have K2 := Lib.hid hxs
       have K3 := Lib.hid hms
       have K4 := Lib.hid hM
       have hcm := hms.m.cell
       have hwsz : wc.heap.size ≤ wr.heap.size := hM.size
       have HW := Lib.hid (fun wz (hd : DS wz D t) (hi : IntsAt wz D (some ⟨w.heap.size, 0, none⟩) 15 zs) => dweigh_any D t (some ⟨w.heap.size, 0, none⟩) 15 15 zs wz hd hu (by decide) hi)
       have HU := Lib.hid (show U64 (weighS zs 15 t) by unfold weighS; split; exact hu; exact belS_u _ _ hu)
       have HI := Lib.hid (show IntsAt wr.drew D (some ⟨w.heap.size, 0, none⟩) 15 zs from by rw [← hcs] at HA; exact a15_ints zs (HA.out.mod hM (by omega)).drew (by omega))
       have hwv := weigh_spec zs 15 t
       generalize weighV zs 15 t = v at *
       generalize weighS zs 15 t = t1 at *
       clear hown hxs hms hM hu
       rcases hwv with ⟨rfl, hp⟩ | ⟨j, hj, rfl, hjz, hp⟩
       · go_wp2_with fail
         go_region_held3 (fun w' => w'.cell? ⟨M, 0, none⟩ = some (dptr D)) (first | exact hcm 0 | assumption | go_keep) ((
           first
           | (go_at_call 13; refine (HW.out _ K3.out.d.drew HI.out).mono ?_; rintro e w5 ⟨rfl, h1, M1⟩; have L1 := Lib.hid (K3.out.drew.next h1 M1); have L2 := Lib.hid (K4.out.drew.trans M1); have L3 := Lib.hid ((Mod.refl (fun i => i = D) wr).drew.trans M1); have q := L1.out.m.at_ (i := 0) (dptr D) rfl; clear h1 M1)))
         go_wp2
         exact HR.out _ _ ⟨none, 0, 0, rfl, by rw [hp]; rfl, fun q => absurd q (by omega), HS.out.then_ L2.out (fun i hi (e : i = D) => by omega)⟩
       · go_wp2_with fail
         go_region_held3 (fun w' => w'.cell? ⟨M, 0, none⟩ = some (dptr D)) (first | exact hcm 0 | assumption | go_keep) ((
           first
           | (go_at_call 13; refine (HW.out _ K3.out.d.drew HI.out).mono ?_; rintro e w5 ⟨rfl, h1, M1⟩; have L1 := Lib.hid (K3.out.drew.next h1 M1); have L2 := Lib.hid (K4.out.drew.trans M1); have L3 := Lib.hid ((Mod.refl (fun i => i = D) wr).drew.trans M1); have q := L1.out.m.at_ (i := 0) (dptr D) rfl; clear h1 M1)))
         have HO := Lib.hid (order_any j (j : Int) rfl hj M D sz t1 w5 L1.out HU.out ⟨hz1, hz2⟩)
         have hj0 : ¬ (j : Int) < 0 := by omega
         go_wp2_with fail
         refine HO.out.mono ?_
         rintro e w6 ⟨v, t2, rfl, ⟨x, rfl⟩, hu2, h1, M1⟩
         have N1 := Lib.hid (L1.out.next h1 M1)
         have N2 := Lib.hid (L2.out.trans M1)
         have K5 := Lib.hid (own_mod K1.out (L3.out.trans M1) hDlt)
         clear h1 M1 L1 L2 HO hj0
         have hq : w6.heap.size ≥ wc.heap.size := N2.out.size
         go_wp2_with (at_builtin; refine wpList_append_own _ rfl (.tmp 33) (.tmp 37) 27 rfl wc.heap.size 34 i0 .nilIface 1 16 Try.underlying27 HI0.out HZ0.out HZ1.out HZ2.out rfl (by decide) _ _ _ rfl (K5.out.alloc _) ⟨w6.heap.size, 0, none⟩ 1 1 [.iface (kT j) x] rfl rfl (one_new _ _ _) (fun u hu => (by simp at hu; subst hu; rfl)) (by unfold maxLen; omega) (by omega) (by simp only [World.size_alloc]; omega) ?_; intro v' w7 hown' hgrow _)
         have P1 := Lib.hid (same_append N2.out K5.out hgrow)
         have P2 := Lib.hid hown'
         have P3 := Lib.hid (show MS w7 M D sz t2 from ⟨blk_append N1.out.m hMlt K5.out hgrow, blk_append N1.out.d hDlt K5.out hgrow, N1.out.ne⟩)
         clear hown' hgrow
         go_wp2
         go_roundw
         case rel => exact ⟨k + 1, t2, xs ++ [.iface (kT j) x], by omega, by go_num, P2.out, (fun u hu => by
           rcases List.mem_append.1 hu with q | q
           · exact K2.out u q
           · rw [List.mem_singleton] at q; subst q; exact ⟨j, x, hj, hjz, rfl⟩), hu2, P3.out, P1.out, fun _ => hp⟩
         case measure => simp [intOf]; omega
     · obtain rfl : k = kn := by omega
       have HP := Lib.hid hpos
       have KO := Lib.hid hown
       have KX := Lib.hid hxs
       have KM := Lib.hid hM
       clear hown hxs hms hM hu hpos
       by_cases hk0 : 0 < k
       · obtain ⟨g, cap, rfl, hb, hc, hrow⟩ := RowV.of_owns KO.out hk0
         have HRw := Lib.hid hrow
         have hlen : xs.length = k := by have := KO.out.1; omega
         have HL := Lib.hid hlen
         clear hrow hc hb hlen
         go_wp2
         refine HR.out _ _ ⟨_, k, _, rfl, by rw [HP.out hk0, HK.out]; rfl, fun _ => ⟨g, 0, rfl, HRw.out.lt, fun i hi => ?_⟩, HS.out.then_ KM.out (fun i hi (e : i = D) => by omega)⟩
         refine ⟨xs.getD i undef, ?_, by rw [Nat.zero_add]; exact HRw.out.cell i (by omega)⟩
         have hix : i < xs.length := by rw [HL.out]; exact hi
         rw [List.getD_eq_getElem?_getD, List.getElem?_eq_getElem hix]
         exact KX.out _ (List.getElem_mem hix)
       · obtain rfl : k = 0 := by omega
         have hv : ∃ a c, u10 = .slice a 0 c := by
           rcases KO.out.2 with ⟨rfl, _⟩ | ⟨g, cap, cur, rfl, _⟩
           · exact ⟨_, _, rfl⟩
           · exact ⟨_, _, rfl⟩
         obtain ⟨a, c, rfl⟩ := hv
         go_wp2
         exact HR.out _ _ ⟨_, 0, _, rfl, by rw [HK.out]; split <;> rfl, fun q => absurd q (by omega), HS.out.then_ KM.out (fun i hi (e : i = D) => by omega)⟩
end Go.Proofs.Ythkpmmkddgjhmaa
