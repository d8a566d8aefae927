import Derived.Test.YtlcepoagpocadaaGreatDoorXpJ
import Derived.Test.YtlcepoagpocadaaGreatDoorMfS
import Derived.StillTailTactics
import Derived.Deep.RegionHeld3
set_option linter.unusedSimpArgs false
set_option linter.unusedVariables false
set_option maxRecDepth 100000
/- The document's pool: a sector is read. -/
namespace Go.Proofs.YtlcepoagpocadaaGreatDoor
open Go Go.RowKit
theorem secS_none {D : DP} {v : DV} {x : Nat} (h : v.pl.getD (x / D.k) 0 = 0) : secS (toMS D) (toVo v) x = zero16 := by
  unfold secS
  rw [show getL ((x / (toMS D).k : Nat) : Int) (toVo v).pl = getP v.pl ((x / D.k : Nat) : Int) from getL_plL _ _, getP_nat, if_pos h]
theorem secS_some {D : DP} {v : DV} {x : Nat} (h : v.pl.getD (x / D.k) 0 ≠ 0) : secS (toMS D) (toVo v) x = (secD D.ch (v.pl.getD (x / D.k) 0)).getD (x % D.k) [] := by
  unfold secS
  rw [show getL ((x / (toMS D).k : Nat) : Int) (toVo v).pl = getP v.pl ((x / D.k : Nat) : Int) from getL_plL _ _, getP_nat, if_neg h]
  rfl
section
variable {F : Nat → Prop} {w : World} {p : Nat} {D : DP}
set_option maxHeartbeats 4000000 in
theorem dsector_any (h : Dq F w p D) (hB : D.vols.length ≤ 10000) (hC : D.ch.length ≤ 100000) {i : Nat} {v : DV} (hv : D.vols[i]? = some v) (x : Nat) (hx : x / D.k < 64) :
    Calls Tryz.prog 69 #[bp p, .int .i64 (i : Int), .int .i64 (x : Int)] w fun e w' => e = .returned (strV (secS (toMS D) (toVo v) x)) ∧ Same w w' := by
  refine opq fun R HR => ?_
  obtain ⟨hO, ga, gc, cv, gs, tag, hX⟩ := h
  have hk1 := hO.k1
  have hk8 := hO.k8
  have hvl := hO.len v (List.mem_of_getElem? hv)
  have x0 := hX.blk.at_ (i := 0) _ rfl
  have x1 := hX.blk.at_ (i := 1) _ rfl
  have x2 := hX.blk.at_ (i := 2) _ rfl
  have hpl := hX.blk.lt
  obtain ⟨g, rfl, -, -, hR, hil, hc, hf⟩ := hX.cell hO.len hv
  have hgl := hR.lt
  have c5 := hc (5 + x / D.k) (by omega)
  rw [dvL_pl (by rw [hvl]; exact hx), ← Nat.add_assoc] at c5
  obtain ⟨n, hn⟩ : ∃ n, D.vols.length = n := ⟨_, rfl⟩
  rw [hn] at x1 hil hB
  have hx3 : x < 8 * 64 := by
    have := Nat.div_add_mod x D.k
    have h2 := Nat.mod_lt x (show 0 < D.k by omega)
    have h3 : D.k * (x / D.k) ≤ 8 * 63 := Nat.mul_le_mul hk8 (by omega)
    omega
  have hdx := Nat.div_le_self x D.k
  have hsn := secS_none (D := D) (v := v) (x := x)
  have hss := secS_some (D := D) (v := v) (x := x)
  have hbig := fun q => hX.chunk hO (c := v.pl.getD (x / D.k) 0) q (hO.big v (List.mem_of_getElem? hv) _ (getD_mem q rfl))
  have hbl := fun (q : v.pl.getD (x / D.k) 0 ≠ 0) => hO.big v (List.mem_of_getElem? hv) _ (getD_mem q rfl)
  obtain ⟨k, hk⟩ : ∃ k, D.k = k := ⟨_, rfl⟩
  rw [hk] at x0 hk1 hk8 hx c5 hdx hsn hss hbig hbl
  have hk0 : ¬ (k : Int) = 0 := by omega
  have hk0b : ((k : Int) == 0) = false := beq_eq_false_iff_ne.2 hk0
  have hq : ((x : Int)).tdiv (k : Int) = ((x / k : Nat) : Int) := by rw [Int.tdiv_eq_ediv_of_nonneg (by omega)]; rfl
  have hqw : IntKind.i64.wrap ((x / k : Nat) : Int) = ((x / k : Nat) : Int) := IntWalk.i64_in _ (by generalize x / k = q at *; omega)
  have hr : ((x : Int)).tmod (k : Int) = ((x % k : Nat) : Int) := by rw [Int.tmod_eq_emod_of_nonneg (by omega)]; rfl
  have hrl := Nat.mod_lt x (show 0 < k by omega)
  have hrw : IntKind.i64.wrap ((x % k : Nat) : Int) = ((x % k : Nat) : Int) := IntWalk.i64_in _ (by omega)
  unfold bp
  by_cases h0 : v.pl.getD (x / k) 0 = 0
  · rw [hsn h0] at HR
    rw [h0] at c5
    have mk := make16
    have cn := fun n => conv_row ((w.drewN n).alloc (.cells Z16 5)) w.heap.size (Blk.new (w.drewN n) Z16 5)
    unfold Z16 at cn
    unfold zero16 strV at HR
    clear hX hO hsn hss hbig hbl hR hc hf hk hn hv hvl x2
    generalize x / k = q at *
    go_enter Tryz.func69, Tryz.ntmps69
    go_wp2_with fail
    go_big_quiet (fail)
    go_wp2_with fail
    exact HR.out _ _ ⟨rfl, ((Mod.refl (fun _ => False) w).drewN _).alloc _⟩
  · rw [hss h0] at HR
    obtain ⟨qb, cap, gg, gcap, rfl, -, -, hqb, hcc, -, hRR, -, -, -⟩ := hbig h0
    have hcl := hbl h0
    have g0 := hRR.cell (x % k) hrl
    have hggl := hRR.lt
    unfold txF at g0
    unfold strV at HR
    clear hX hO hsn hss hbig hbl hR hc hf hn hv hvl hRR
    generalize x / k = q at *
    generalize x % k = r at *
    generalize v.pl.getD q 0 = c at *
    obtain ⟨c', rfl⟩ : ∃ c', c = c' + 1 := ⟨c - 1, by omega⟩
    rw [Nat.add_sub_cancel] at hcc
    clear hk
    obtain ⟨L, hL⟩ : ∃ L : List UInt8, (secD D.ch (c' + 1)).getD r [] = L := ⟨_, rfl⟩
    rw [hL] at g0 HR
    obtain ⟨m, hm⟩ : ∃ m, D.ch.length = m := ⟨_, rfl⟩
    rw [hm] at hcl hC x2
    clear hL hm
    go_enter Tryz.func69, Tryz.ntmps69
    go_wp2_with fail
    go_big_quiet (fail)
    go_wp2_with fail
    go_big_quiet (fail)
    go_wp2
    exact HR.out _ _ ⟨rfl, ((Mod.refl (fun _ => False) w).drewN _).drewN _⟩
end
end Go.Proofs.YtlcepoagpocadaaGreatDoor
set_option maxRecDepth 100000
/- The document's pool: sectors are read; all that its volumes read. -/
namespace Go.Proofs.YtlcepoagpocadaaGreatDoor
open Go Go.RowKit
theorem str_addD (a b : List UInt8) : (⟨a.toArray⟩ : ByteArray) ++ ⟨b.toArray⟩ = ⟨(a ++ b).toArray⟩ := by
  apply ByteArray.ext
  simp
section
variable {F : Nat → Prop} {w : World} {p : Nat} {D : DP}
theorem find_hit (hO : DOk D) {i : Nat} {v : DV} (hv : D.vols[i]? = some v) {r : Int} (hr : FindR D v.id r) : r = (i : Int) := by
  rcases hr with ⟨j, u, h1, h2, h3⟩ | ⟨_, h⟩
  · rw [h1, hO.at_ h2 hv h3]
  · exact absurd rfl (h v (List.mem_of_getElem? hv))
theorem readD_len (hO : DOk D) {v : DV} (hv : v ∈ D.vols) (x n : Nat) : (readS (toMS D) (toVo v) x n).length = 16 * n := by
  induction n with
  | zero => rfl
  | succ n ih => rw [readS_succ, List.length_append, ih, sec_len hO hv]; omega
set_option maxHeartbeats 4000000 in
theorem dread_any (h : Dq F w p D) (hB : D.vols.length ≤ 10000) (hC : D.ch.length ≤ 100000) {i : Nat} {v : DV} (hv : D.vols[i]? = some v) (x n : Nat) (hx : x + n ≤ 64 * D.k) :
    Calls Tryz.prog 65 #[bp p, .int .i64 v.id, .int .i64 (x : Int), .int .i64 (n : Int)] w fun e w' => e = .returned (strV (readS (toMS D) (toVo v) x n)) ∧ Same w w' := by
  refine opq fun R HR => ?_
  have HD := Lib.hid h
  have HV := Lib.hid hv
  have hk8 := h.1.k8
  have hk1 := h.1.k1
  have HF := Lib.hid (fun W (M : Same w W) => dfind_any (h.same M) (by omega) v.id)
  have HS := Lib.hid (fun W (M : Same w W) (y : Nat) hy => dsector_any (h.same M) hB hC hv y hy)
  have HLE := Lib.hid (fun m => readD_len h.1 (List.mem_of_getElem? hv) x m)
  have hx2 : x + n ≤ 512 := by
    have : 64 * D.k ≤ 64 * 8 := Nat.mul_le_mul_left _ hk8
    omega
  have HXD := Lib.hid (show ∀ j, j < n → (x + j) / D.k < 64 from fun j hj => by
    rw [Nat.div_lt_iff_lt_mul (by omega)]; omega)
  unfold strV at HR HS
  clear h hv
  unfold bp at *
  go_enter Tryz.func65, Tryz.ntmps65
  go_wp2_with fail
  go_loopw [9, 10] (fun s c wr => ∃ j : Nat, j ≤ n ∧ c = .int .i64 j ∧ s = .string ⟨(readS (toMS D) (toVo v) x j).toArray⟩ ∧ Same w wr) (fun _ c _ => n - (intOf c).toNat)
  case atStart => exact ⟨0, Nat.zero_le _, rfl, rfl, Mod.refl _ _⟩
  case round =>
    obtain ⟨j, hj, rfl, rfl, hM⟩ := hrel
    have J := Lib.hid hM
    clear hM
    have hl := HLE.out j
    by_cases hlt : j < n
    · obtain ⟨T, hT⟩ : ∃ T : ByteArray, (⟨(readS (toMS D) (toVo v) x j).toArray⟩ : ByteArray) = T := ⟨_, rfl⟩
      have HT := Lib.hid hT
      rw [hT]
      have hTs : T.size = 16 * j := by rw [← hT, bytes_size, hl]
      clear hT hl
      go_wp2_with fail
      refine (HF.out _ J.out).mono ?_
      rintro e w1 ⟨r, rfl, hr, M⟩
      obtain rfl := find_hit HD.out.1 HV.out hr
      have J1 := Lib.hid (J.out.same M)
      clear M hr
      have HS1 := Lib.hid (HS.out _ J1.out (x + j) (HXD.out j hlt))
      have hsl := sec_len HD.out.1 (List.mem_of_getElem? HV.out) (x + j)
      obtain ⟨L, hL⟩ : ∃ L, secS (toMS D) (toVo v) (x + j) = L := ⟨_, rfl⟩
      rw [hL] at HS1 hsl
      have HL := Lib.hid hL
      rw [Int.natCast_add] at HS1
      obtain ⟨LB, hLB⟩ : ∃ T : ByteArray, (⟨L.toArray⟩ : ByteArray) = T := ⟨_, rfl⟩
      rw [hLB] at HS1
      have HLB := Lib.hid hLB
      have hLs : LB.size = 16 := by rw [← hLB, bytes_size, hsl]
      clear hL hLB hsl
      go_wp2_with fail
      refine HS1.out.mono ?_
      rintro e w2 ⟨rfl, M⟩
      have J2 := Lib.hid (J1.out.same M)
      clear M
      go_wp2_with fail
      go_roundw
      case rel => exact ⟨j + 1, by omega, by go_num, by rw [← HT.out, ← HLB.out, str_addD, readS_succ, HL.out], J2.out⟩
      case measure => simp [intOf]; omega
    · obtain rfl : j = n := by omega
      clear hl
      go_wp2_with fail
      exact HR.out _ _ ⟨rfl, J.out⟩
def dumpT (D : DP) (j : Nat) : List (List UInt8) := (D.vols.take j).map fun v => readS (toMS D) (toVo v) 0 (v.size.toNat * D.k)
theorem dumpT_all (D : DP) {j : Nat} (h : D.vols.length = j) : dumpT D j = dumpS (toMS D) := by
  unfold dumpT dumpS toMS
  rw [← h, List.take_length]
  dsimp only
  rw [List.map_map]
  rfl
theorem dumpT_succ {D : DP} {j : Nat} {v : DV} (h : D.vols[j]? = some v) : (dumpT D (j + 1)).map strV = (dumpT D j).map strV ++ [strV (readS (toMS D) (toVo v) 0 (v.size.toNat * D.k))] := by
  obtain ⟨h1, rfl⟩ := List.getElem?_eq_some_iff.1 h
  unfold dumpT
  rw [List.take_succ_eq_append_getElem h1, List.map_append, List.map_append]
  rfl
set_option maxHeartbeats 8000000 in
theorem ddump_any (h : Dq F w p D) (hB : D.vols.length ≤ 10000) (hC : D.ch.length ≤ 100000) :
    Calls Tryz.prog 27 #[bp p] w fun e w' => ∃ u, e = .returned u ∧ w'.ownsRow w.heap.size 9 1 u D.vols.length ((dumpS (toMS D)).map strV) ∧ Same w w' := by
  refine opq fun R HR => ?_
  obtain ⟨i0, hi, hz0, hz1, hz2⟩ := info_parts info9
  have I0 := Lib.hid hi
  have Z0 := Lib.hid hz0
  have Z1 := Lib.hid hz1
  have Z2 := Lib.hid hz2
  clear hi hz0 hz1 hz2
  have HD := Lib.hid h
  have hk8 := h.1.k8
  have hk1 := h.1.k1
  have HO := Lib.hid h.1
  have HS := Lib.hid (fun W (M : Same w W) i v (hv : D.vols[i]? = some v) (y : Nat) hy => dsector_any (h.same M) hB hC hv y hy)
  obtain ⟨k, hk⟩ : ∃ k, D.k = k := ⟨_, rfl⟩
  obtain ⟨n, hn⟩ : ∃ n, D.vols.length = n := ⟨_, rfl⟩
  rw [hk] at hk1 hk8
  rw [hn] at hB HR
  have HN := Lib.hid hn
  have HK := Lib.hid hk
  unfold strV at HS
  clear h hn hk
  unfold bp at *
  go_enter Tryz.func27, Tryz.ntmps27
  go_wp2_with fail
  go_loopw [3, 4] (fun u i wr => ∃ j : Nat, j ≤ n ∧ i = .int .i64 j ∧ wr.ownsRow w.heap.size 9 1 u j ((dumpT D j).map strV) ∧ Same w wr) (fun _ i _ => n - (intOf i).toNat)
  case atStart => exact ⟨0, Nat.zero_le _, rfl, ⟨rfl, .inr ⟨_, 0, #[], rfl, Nat.le_refl _, heap_new _ _, Nat.le_refl _, by unfold maxLen; omega, rfl, rfl⟩⟩, (Mod.refl _ _).alloc _⟩
  case round =>
    obtain ⟨j, hj, rfl, hown, hM⟩ := hrel
    have K := Lib.hid hown
    have J := Lib.hid hM
    obtain ⟨ga, gc, cv, gs, tag, hX⟩ := (HD.out.same hM).2
    have HX := Lib.hid hX
    have x1 := hX.blk.at_ (i := 1) _ rfl
    have hpl := hX.blk.lt
    rw [HN.out] at x1
    clear hown hM hX
    by_cases hlt : j < n
    · obtain ⟨v, hv⟩ : ∃ v, D.vols[j]? = some v := ⟨_, List.getElem?_eq_getElem (by rw [HN.out]; exact hlt)⟩
      have hvm := List.mem_of_getElem? hv
      have hsz := HO.out.sizes v hvm
      obtain ⟨sz, hsz2⟩ : ∃ sz : Nat, v.size = (sz : Int) := ⟨v.size.toNat, by omega⟩
      have HV := Lib.hid hv
      have HSZ := Lib.hid hsz2
      have hs64 : sz ≤ 64 := by omega
      have hmul : sz * k ≤ 512 := Nat.le_trans (Nat.mul_le_mul hs64 hk8) (by decide)
      obtain ⟨a, hal⟩ : ∃ a, sz * k = a := ⟨_, rfl⟩
      have HAL := Lib.hid hal
      rw [hal] at hmul
      have HXD := Lib.hid (show ∀ y, y < a → y / D.k < 64 from fun y hy => by
        rw [HK.out, Nat.div_lt_iff_lt_mul (by omega)]
        have : sz * k ≤ 64 * k := Nat.mul_le_mul_right _ hs64
        omega)
      have HS2 := Lib.hid (dumpT_succ (D := D) hv)
      rw [hsz2, Int.toNat_natCast, HK.out, hal] at HS2
      clear hv hvm hsz hsz2 hal
      go_wp2_with fail
      go_loopw [5, 6] (fun s c w2 => ∃ y : Nat, y ≤ a ∧ c = .int .i64 y ∧ s = .string ⟨(readS (toMS D) (toVo v) 0 y).toArray⟩ ∧ Same wr w2) (fun _ c _ => a - (intOf c).toNat)
      case atStart => exact ⟨0, Nat.zero_le _, rfl, rfl, Mod.refl _ _⟩
      case round =>
        obtain ⟨y, hy, rfl, rfl, hM⟩ := hrel
        have J2 := Lib.hid hM
        have X2 := Lib.hid (HX.out.same hM)
        have y0 := X2.out.blk.at_ (i := 0) _ rfl
        have y1 := X2.out.blk.at_ (i := 1) _ rfl
        have hpl2 := X2.out.blk.lt
        rw [HN.out] at y1
        rw [HK.out] at y0
        obtain ⟨g, rfl, -, -, hR, -, hc, hf⟩ := X2.out.cell HO.out.len HV.out
        have c2 := hc 2 (by decide)
        rw [show (dvL v).getD 2 undef = .int .i64 v.size from rfl, HSZ.out] at c2
        have hgl := hR.lt
        have hl := readD_len HO.out (List.mem_of_getElem? HV.out) 0 y
        have hmul2 : IntKind.i64.wrap ((sz : Int) * (k : Int)) = (a : Int) := by
          have e : (sz : Int) * (k : Int) = (a : Int) := by rw [← HAL.out]; simp
          rw [e]; exact IntWalk.i64_in _ (by omega)
        have hmul3 : (sz : Int) * (k : Int) = (a : Int) := by rw [← HAL.out]; simp
        clear hM hR hc hf
        obtain ⟨T, hT⟩ : ∃ T : ByteArray, (⟨(readS (toMS D) (toVo v) 0 y).toArray⟩ : ByteArray) = T := ⟨_, rfl⟩
        have HT := Lib.hid hT
        rw [hT]
        have hTs : T.size = 16 * y := by rw [← hT, bytes_size, hl]
        clear hT hl
        by_cases hly : y < a
        · go_upto_region 7 with fail
          go_big_quiet (fail)
          have J3 := Lib.hid (J2.out.drewN nq)
          have HS1 := Lib.hid (HS.out _ (J.out.same J3.out) j v HV.out y (HXD.out y hly))
          have hsl := sec_len HO.out (List.mem_of_getElem? HV.out) y
          obtain ⟨L, hL⟩ : ∃ L, secS (toMS D) (toVo v) y = L := ⟨_, rfl⟩
          rw [hL] at HS1 hsl
          have HL := Lib.hid hL
          obtain ⟨LB, hLB⟩ : ∃ T : ByteArray, (⟨L.toArray⟩ : ByteArray) = T := ⟨_, rfl⟩
          rw [hLB] at HS1
          have HLB := Lib.hid hLB
          have hLs : LB.size = 16 := by rw [← hLB, bytes_size, hsl]
          clear hL hLB hsl
          go_wp2_with fail
          refine HS1.out.mono ?_
          rintro e w3 ⟨rfl, M⟩
          have J4 := Lib.hid (J3.out.same M)
          clear M
          go_wp2_with fail
          go_roundw
          case rel => exact ⟨y + 1, by omega, by go_num, by rw [← HT.out, ← HLB.out, str_addD, readS_succ, Nat.zero_add, HL.out], J4.out⟩
          case measure => simp [intOf]; omega
        · obtain rfl : y = a := by omega
          go_upto_region 7 with fail
          go_big_quiet (fail)
          have J3 := Lib.hid (J2.out.drewN nq)
          have K3 := Lib.hid (own_mod2 K.out J3.out (fun _ _ q => q))
          obtain ⟨w3, hw3⟩ : ∃ w3, wr.drewN nq = w3 := ⟨_, rfl⟩
          rw [hw3] at J3 K3 ⊢
          have hs3 : w.heap.size ≤ w3.heap.size := (J.out.same J3.out).size
          clear hw3 c2 y0 y1 hgl hpl2
          go_wp2_with (at_builtin; refine wpList_append_own _ rfl (.tmp 40) (.tmp 42) 32 rfl w.heap.size 9 i0 (.string ⟨#[]⟩) 1 16 Tryz.underlying32 I0.out Z0.out Z1.out Z2.out rfl (by decide) _ _ _ rfl (K3.out.alloc _) ⟨w3.heap.size, 0, none⟩ 1 1 [.string T] rfl rfl (one_new _ _ _) (fun u hu => (by simp at hu; subst hu; rfl)) (by unfold maxLen; omega) (by omega) (by simp only [World.size_alloc]; omega) ?_; intro v' w4 hown' hgrow _)
          exact ⟨⟨j + 1, by omega, by go_num, by rw [HS2.out]; unfold strV; rw [HT.out]; exact hown', same_append (J.out.same J3.out) K3.out hgrow⟩, by simp [intOf]; omega⟩
    · obtain rfl : j = n := by omega
      obtain ⟨aa, cc, rfl⟩ := owns_slice K.out
      have HDT := Lib.hid (dumpT_all D HN.out)
      rw [HDT.out] at K
      go_wp2_with fail
      exact HR.out _ _ ⟨_, rfl, K.out, J.out⟩
end
end Go.Proofs.YtlcepoagpocadaaGreatDoor
set_option maxRecDepth 100000
/- The document's pool: a sector is another one. -/
namespace Go.Proofs.YtlcepoagpocadaaGreatDoor
open Go Go.RowKit
theorem info32 : (Tryz.prog.info? 32).map (fun i => (i.zero, i.size, i.bytes)) = some (some (.slice none 0 0), 1, 24) := by kernel_rfl
/-- Chunks more: one behind the others. -/
theorem Dx.grow {F : Nat → Prop} {w w1 : World} {p : Nat} {D : DP} {ga : Option Addr} {gc : Nat} {cv : Value} {gs : List (Nat × Nat)} {tag : Nat → Nat} (h : Dx F w p D ga gc cv gs tag)
    {l : List (List UInt8)} {gl cl : Nat} (hl : RowV w gl D.k (txF l)) (hgl : ¬ F gl) {q cap : Nat}
    (hown : w1.ownsRow 0 32 1 (.slice (some ⟨q, 0, none⟩) (D.ch.length + 1) cap) (D.ch.length + 1) ((gs ++ [(gl, cl)]).map fun x => .slice (some ⟨x.1, 0, none⟩) D.k x.2)) (M : Mod (fun i => cv.ownBlock = some i) w w1) (hq : cv.ownBlock = some q ∨ w.heap.size ≤ q) (hqg : q ≠ gl) :
    ∃ tag', Dx (fun i => F i ∨ i = gl ∨ i = q) (w1.setCell ⟨p, 2, none⟩ (.slice (some ⟨q, 0, none⟩) (D.ch.length + 1) cap)) p { D with ch := D.ch ++ [l] } ga gc (.slice (some ⟨q, 0, none⟩) (D.ch.length + 1) cap) (gs ++ [(gl, cl)]) tag' ∧
      Mod F w (w1.setCell ⟨p, 2, none⟩ (.slice (some ⟨q, 0, none⟩) (D.ch.length + 1) cap)) := by
  have hcF : ∀ i, cv.ownBlock = some i → tag i = 3 ∧ F i := h.tc
  have Mp : Mod (fun i => i = p) w1 (w1.setCell ⟨p, 2, none⟩ (.slice (some ⟨q, 0, none⟩) (D.ch.length + 1) cap)) := (Mod.refl (fun i => i = p) w1).setCell (p := ⟨p, 2, none⟩) (fun _ => rfl) _
  have hFl := h.fl
  have far : ∀ i, F i → tag i ≠ 3 → ¬ cv.ownBlock = some i := fun i _ hi e => hi (hcF i e).1
  have hpn : ∀ i, tag i ≠ 1 → ¬ i = p := fun i q e => q (by rw [e]; exact h.tp.1)
  have hpl : p < w.heap.size := h.blk.lt
  have hqp : q ≠ p := fun e => by
    rcases hq with hq | hq
    · have := (hcF q hq).1; rw [e, h.tp.1] at this; cases this
    · omega
  have hglp : gl ≠ p := fun e => hgl (by rw [e]; exact h.tp.2)
  have hgll : ¬ cv.ownBlock = some gl := fun e => hgl (hcF gl e).2
  have old : ∀ i, F i → i ≠ q → upd (upd tag gl (4 + D.ch.length)) q 3 i = tag i := fun i hi e => by
    rw [upd_ne _ _ e, upd_ne _ _ (fun (z : i = gl) => hgl (z ▸ hi))]
  have ne3 : ∀ i, F i → tag i ≠ 3 → i ≠ q := fun i hi ht e => by
    rcases hq with hq | hq
    · exact ht (by rw [e]; exact (hcF q hq).1)
    · have := hFl i hi; omega
  have MF : Mod F w (w1.setCell ⟨p, 2, none⟩ (.slice (some ⟨q, 0, none⟩) (D.ch.length + 1) cap)) := (M.mono (fun i _ e => (hcF i e).2)).then_ (Mp.mono (fun i _ e => (show F i by rw [e]; exact h.tp.2))) (fun i _ e => e)
  have hlen := h.glen
  refine ⟨upd (upd tag gl (4 + D.ch.length)) q 3, ⟨?_, fun z => ?_, ?_, fun b hb => ?_, fun i x y h1 h2 => ?_, ⟨?_, .inl h.tp.2⟩, fun i hi => ?_, h.cp⟩, MF⟩
  · have := (h.blk.mod M (far p h.tp.2 (by rw [h.tp.1]; decide))).set 2 (.slice (some ⟨q, 0, none⟩) (D.ch.length + 1) cap)
    simp at this
    exact this
  · obtain ⟨g, h1, h2, h3, h4⟩ := h.vols z
    exact ⟨g, h1, (h2.mod M (far g h4 (by rw [h3]; decide))).mod Mp (hpn g (by rw [h3]; decide)), (old g h4 (ne3 g h4 (by rw [h3]; decide))).trans h3, .inl h4⟩
  · have e : (D.ch ++ [l]).length = D.ch.length + 1 := by simp
    show World.ownsRow _ 0 32 1 _ (D.ch ++ [l]).length _
    rw [e]
    exact own_mod2 hown Mp (fun b hb e2 => by
      have hb : some q = some b := hb
      injection hb with hb
      exact hqp (hb.trans e2))
  · have hb : some q = some b := hb
    injection hb with hb
    rw [← hb]
    exact ⟨upd_same _ _ _, .inr (.inr rfl)⟩
  · by_cases z : i < gs.length
    · rw [List.getElem?_append_left z] at h1
      rw [List.getElem?_append_left (by omega)] at h2
      obtain ⟨a1, a2, a3⟩ := h.secs i x y h1 h2
      exact ⟨(a1.mod M (far _ a3 (by rw [a2]; omega))).mod Mp (hpn _ (by rw [a2]; omega)), (old _ a3 (ne3 _ a3 (by rw [a2]; omega))).trans a2, .inl a3⟩
    · obtain rfl : i = gs.length := by
        have := (List.getElem?_eq_some_iff.1 h1).1
        simp at this
        omega
      rw [List.getElem?_append_right (Nat.le_refl _), Nat.sub_self] at h1
      rw [hlen, List.getElem?_append_right (Nat.le_refl _), Nat.sub_self] at h2
      obtain rfl : (gl, cl) = x := by simpa using h1
      obtain rfl : l = y := by simpa using h2
      refine ⟨(hl.mod M hgll).mod Mp hglp, ?_, .inr (.inl rfl)⟩
      show upd (upd tag gl _) q 3 gl = _
      rw [upd_ne _ _ (fun e => hqg e.symm), upd_same, hlen]
  · rw [old p h.tp.2 (fun e => hqp e.symm)]; exact h.tp.1
  · have h1 : w1.heap.size = (w1.setCell ⟨p, 2, none⟩ (.slice (some ⟨q, 0, none⟩) (D.ch.length + 1) cap)).heap.size := by simp
    rw [← h1]
    have hs := M.size
    rcases hi with hi | rfl | rfl
    · have := hFl i hi; omega
    · have := hl.lt; omega
    · obtain ⟨g', cap', e', _, _, hr⟩ := RowV.of_owns hown (by omega)
      injection e' with e1 _ _
      injection e1 with e1
      injection e1 with e1
      rw [e1]; exact hr.lt
theorem txF_mapD (xs : List (List UInt8)) (i : Nat) (hi : i < xs.length) : (xs.map strV).getD i undef = txF xs i := by
  unfold txF strV
  rw [List.getD_eq_getElem?_getD, List.getElem?_map, List.getElem?_eq_getElem hi, List.getD_eq_getElem?_getD, List.getElem?_eq_getElem hi]; rfl
def rowDD (D : DP) (v : DV) (pp j : Nat) : List (List UInt8) := (List.range j).map fun y => secS (toMS D) (toVo v) (pp * D.k + y)
theorem rowDD_succ (D : DP) (v : DV) (pp j : Nat) : (rowDD D v pp (j + 1)).map strV = (rowDD D v pp j).map strV ++ [strV (secS (toMS D) (toVo v) (pp * D.k + j))] := by unfold rowDD; rw [List.range_succ, List.map_append, List.map_append]; rfl
theorem grown_alone {F : Nat → Prop} {w : World} {p : Nat} {D : DP} {ga : Option Addr} {gc : Nat} {cv : Value} {gs : List (Nat × Nat)} {tag : Nat → Nat} {D' : DP} (h : Dx F w p D' ga gc cv gs tag) (e : D' = D) : Dx F w p D ga gc cv gs tag := e ▸ h
section
variable {F : Nat → Prop} {w : World} {p : Nat} {D : DP}
set_option maxHeartbeats 8000000 in
theorem dset_any (h : Dq F w p D) (hB : D.vols.length ≤ 10000) (hC : D.ch.length ≤ 99999) {i : Nat} {v : DV} (hv : D.vols[i]? = some v) (x : Nat) (hx : ((x / D.k : Nat) : Int) < v.size) (s : List UInt8) (hs : s.length = 16) :
    Calls Tryz.prog 93 #[bp p, .int .i64 (i : Int), .int .i64 (x : Int), strV s] w fun e w' => e = .returned (.tuple #[]) ∧ (∃ F', Dq F' w' p (setD D i x v s) ∧ ∀ i, F' i → F i ∨ w.heap.size ≤ i) ∧ Mod F w w' := by
  refine opq fun R HR => ?_
  have HD := Lib.hid h
  have HV := Lib.hid hv
  have hO := h.1
  have HO := Lib.hid hO
  have hk1 := hO.k1
  have hk8 := hO.k8
  have hvm := List.mem_of_getElem? hv
  have hsz := hO.sizes v hvm
  have hvl := hO.len v hvm
  have HVL := Lib.hid hvl
  have HOK := Lib.hid (set_rel hO hv hx hs).2
  have hx64 : x / D.k < 64 := by omega
  have HOW := Lib.hid (fun W (M : Same w W) c => downs_any (h.same M) hB c)
  have HS := Lib.hid (fun W (M : Same w W) (y : Nat) hy => dsector_any (h.same M) hB (by omega) hv y hy)
  obtain ⟨ga, gc, cv, gs, tag, hX⟩ := h.2
  have HX := Lib.hid hX
  have x0 := hX.blk.at_ (i := 0) _ rfl
  have x1 := hX.blk.at_ (i := 1) _ rfl
  have hpl := hX.blk.lt
  obtain ⟨g, hga, -, -, hR, hil, hc, hf⟩ := hX.cell hO.len hv
  have hgl := hR.lt
  have c5 := hc (5 + x / D.k) (by omega)
  rw [dvL_pl (by rw [hvl]; exact hx64), ← Nat.add_assoc] at c5
  obtain ⟨n, hn⟩ : ∃ n, D.vols.length = n := ⟨_, rfl⟩
  have HN := Lib.hid hn
  rw [hn, hga] at x1
  rw [hn] at hil hB
  have hx3 : x < 8 * 64 := by
    have := Nat.div_add_mod x D.k
    have h2 := Nat.mod_lt x (show 0 < D.k by omega)
    have h3 : D.k * (x / D.k) ≤ 8 * 63 := Nat.mul_le_mul hk8 (by omega)
    omega
  have hdx := Nat.div_le_self x D.k
  have HGA := Lib.hid hga
  have HMD := Lib.hid (Nat.div_add_mod x D.k)
  have HSET := Lib.hid (show setD D i x v s = if needP D v (x / D.k) then putC (grown D i (x / D.k) v) (D.ch.length + 1) (x % D.k) s else putC D (v.pl.getD (x / D.k) 0) (x % D.k) s from rfl)
  have HBIG := Lib.hid (fun (q : v.pl.getD (x / D.k) 0 ≠ 0) => hO.big v hvm _ (getD_mem q rfl))
  have HSZ := Lib.hid hx
  have HGR := Lib.hid (hO.grown hv hx)
  obtain ⟨k, hk⟩ : ∃ k, D.k = k := ⟨_, rfl⟩
  have HK := Lib.hid hk
  rw [hk] at x0 hk1 hk8 c5 hdx hx64 HMD HSET HBIG HGR
  have hk0 : ¬ (k : Int) = 0 := by omega
  have hk0b : ((k : Int) == 0) = false := beq_eq_false_iff_ne.2 hk0
  have hq : ((x : Int)).tdiv (k : Int) = ((x / k : Nat) : Int) := by rw [Int.tdiv_eq_ediv_of_nonneg (by omega)]; rfl
  have hqw : IntKind.i64.wrap ((x / k : Nat) : Int) = ((x / k : Nat) : Int) := IntWalk.i64_in _ (by generalize x / k = q at *; omega)
  have hr : ((x : Int)).tmod (k : Int) = ((x % k : Nat) : Int) := by rw [Int.tmod_eq_emod_of_nonneg (by omega)]; rfl
  have hrl := Nat.mod_lt x (show 0 < k by omega)
  have hrw : IntKind.i64.wrap ((x % k : Nat) : Int) = ((x % k : Nat) : Int) := IntWalk.i64_in _ (by omega)
  clear h hv hO hvm hsz hvl hX hR hc hf hn hga hk hx
  generalize x / k = q at *
  generalize x % k = r at *
  obtain ⟨c, hcq⟩ : ∃ c, v.pl.getD q 0 = c := ⟨_, rfl⟩
  have HCQ := Lib.hid hcq
  rw [hcq] at c5 HBIG HSET
  unfold bp strV at *
  clear hcq
  by_cases hneed : needP D v q
  · rw [if_pos hneed] at HSET
    go_enter Tryz.func93, Tryz.ntmps93
    go_upto_region 2 with fail
    go_cut [35] (fun z wx => z = .bool true ∧ Same w wx)
    case first =>
      clear HR HSET HGR HOK
      by_cases hc0 : c = 0
      · have hc0b : ((c : Int) == 0) = true := by rw [hc0]; rfl
        subst hc0
        go_wp2_with fail
        all_goals go_meet
        all_goals exact ⟨rfl, Mod.refl _ _⟩
      · have hc0b : ((c : Int) == 0) = false := by simpa using hc0
        have hown : 1 < ownD D c := by
          rcases hneed with z | z
          · rw [HCQ.out] at z; exact absurd z hc0
          · rw [HCQ.out] at z; exact z
        go_wp2_with fail
        refine (HOW.out _ (Mod.refl _ _) c).mono ?_
        rintro e w1 ⟨rfl, M⟩
        have N1 := Lib.hid M
        clear M
        have hd : decide (1 < ((ownD D c : Nat) : Int)) = true := decide_eq_true (by omega)
        go_wp2_with fail
        all_goals go_meet
        all_goals exact ⟨by simp [hd], N1.out⟩
    case rest =>
      obtain ⟨rfl, hM⟩ := hcut
      have N1 := Lib.hid hM
      obtain ⟨i0, hi, hz0, hz1, hz2⟩ := info_parts info9
      have I0 := Lib.hid hi
      have Z0 := Lib.hid hz0
      have Z1 := Lib.hid hz1
      have Z2 := Lib.hid hz2
      have hmul : q * k ≤ 64 * 8 := Nat.mul_le_mul (by omega) hk8
      obtain ⟨a, hal⟩ : ∃ a, q * k = a := ⟨_, rfl⟩
      have HAL := Lib.hid hal
      rw [hal] at hmul
      have hmul3 : (q : Int) * (k : Int) = (a : Int) := by rw [← hal]; simp
      have HXD := Lib.hid (show ∀ y, y < k → (q * D.k + y) / D.k < 64 from fun y hy => by
        rw [HK.out, Nat.div_lt_iff_lt_mul (by omega)]
        have : q * k ≤ 63 * k := Nat.mul_le_mul_right _ (by omega)
        omega)
      have OE := Lib.hid (show (wc.alloc (.cells #[] 9)).ownsRow wc.heap.size 9 1 (.slice (some ⟨wc.heap.size, 0, none⟩) 0 0) 0 ((rowDD D v q 0).map strV) from ⟨rfl, .inr ⟨_, 0, #[], rfl, Nat.le_refl _, heap_new _ _, Nat.le_refl _, by unfold maxLen; omega, rfl, rfl⟩⟩)
      clear hM hi hz0 hz1 hz2 x0 x1 c5 hal hneed
      go_wp2_with fail
      go_loopw [10, 11] (fun u jj wr => ∃ j : Nat, j ≤ k ∧ jj = .int .i64 j ∧ wr.ownsRow wc.heap.size 9 1 u j ((rowDD D v q j).map strV) ∧ Same wc wr) (fun _ jj _ => k - (intOf jj).toNat)
      case atStart => exact ⟨0, Nat.zero_le _, rfl, OE.out, (Mod.refl _ _).alloc _⟩
      case round =>
        obtain ⟨j, hj, rfl, hown, hM⟩ := hrel
        have K := Lib.hid hown
        have J := Lib.hid hM
        have XR := Lib.hid (HX.out.same (N1.out.same hM))
        have y0 := XR.out.blk.at_ (i := 0) _ rfl
        rw [HK.out] at y0
        have hpl1 := XR.out.blk.lt
        clear hown hM
        by_cases hlt : j < k
        · have HS1 := Lib.hid (HS.out _ (N1.out.same J.out) (q * D.k + j) (HXD.out j hlt))
          have hsl := sec_len HO.out (List.mem_of_getElem? HV.out) (q * D.k + j)
          obtain ⟨L, hL⟩ : ∃ L, secS (toMS D) (toVo v) (q * D.k + j) = L := ⟨_, rfl⟩
          rw [hL] at HS1 hsl
          have HL := Lib.hid hL
          rw [HK.out, HAL.out, Int.natCast_add] at HS1
          have HRS := Lib.hid (rowDD_succ D v q j)
          rw [hL] at HRS
          clear hL
          go_wp2_with fail
          refine HS1.out.mono ?_
          rintro e w3 ⟨rfl, M⟩
          have J3 := Lib.hid (J.out.same M)
          have K3 := Lib.hid (own_mod2 K.out M (fun _ _ q => q))
          have hs3 := J3.out.size
          clear M
          go_wp2_with (at_builtin; refine wpList_append_own _ rfl (.tmp 45) (.tmp 57) 32 rfl wc.heap.size 9 i0 (.string ⟨#[]⟩) 1 16 Tryz.underlying32 I0.out Z0.out Z1.out Z2.out rfl (by decide) _ _ _ rfl (K3.out.alloc _) ⟨w3.heap.size, 0, none⟩ 1 1 [.string ⟨L.toArray⟩] rfl rfl (one_new _ _ _) (fun u hu => (by simp at hu; subst hu; rfl)) (by unfold maxLen; omega) (by omega) (by simp only [World.size_alloc]; omega) ?_; intro v' w4 hown' hgrow _)
          go_roundw
          case rel => exact ⟨j + 1, by omega, by go_num, by rw [HRS.out]; exact hown', same_append J3.out K3.out hgrow⟩
          case measure => simp [intOf]; omega
        · obtain rfl : j = k := by omega
          obtain ⟨gl, cl, rfl, hglb, -, hRw⟩ := RowV.of_owns K.out (by omega)
          rw [Nat.mul_one] at hRw
          have HLR := Lib.hid (show RowV wr gl j (txF (rowDD D v q j)) from hRw.congr (fun y hy => txF_mapD _ y (by unfold rowDD; simp; exact hy)))
          obtain ⟨i1, hi1, hy0, hy1, hy2⟩ := info_parts info32
          have I1 := Lib.hid hi1
          have Y0 := Lib.hid hy0
          have Y1 := Lib.hid hy1
          have Y2 := Lib.hid hy2
          have y2 := XR.out.blk.at_ (i := 2) _ rfl
          have y2f := XR.out.blk.free 2
          have HCH := Lib.hid XR.out.chs
          have HGW := Lib.hid (show w.heap.size ≤ gl from Nat.le_trans N1.out.size hglb)
          obtain ⟨m, hm⟩ : ∃ m, D.ch.length = m := ⟨_, rfl⟩
          rw [hm] at HCH hC HBIG HSET
          have HM := Lib.hid hm
          have hcvp : ¬ cv.ownBlock = some p := fun e => by have h1 := (XR.out.tc p e).1; rw [XR.out.tp.1] at h1; cases h1
          have BA := Lib.hid (XR.out.blk.alloc (.cells #[.slice (some ⟨gl, 0, none⟩) j cl] 32))
          clear hRw hi1 hy0 hy1 hy2 hm hglb
          go_upto_region 9 with (at_builtin; refine wpList_append_lies _ rfl (.tmp 63) (.tmp 65) 57 rfl 0 32 i1 (.slice none 0 0) 1 24 Tryz.underlying57 I1.out Y0.out Y1.out Y2.out rfl (by decide) cv m _ rfl (own_mod2 HCH.out ((Mod.refl _ _).alloc _) (fun _ _ q => q)) ⟨wr.heap.size, 0, none⟩ 1 1 [.slice (some ⟨gl, 0, none⟩) j cl] rfl rfl (one_new _ _ _) (fun u hu => (by simp at hu; subst hu; rfl)) (by decide) (by unfold maxLen; omega) (by omega) (Nat.zero_le _) _ rfl ?_; intro q5 c5 w5 hown5 hgrow5 hq5 hlt5; have M5 := Lib.hid (show Mod (fun i => cv.ownBlock = some i) (wr.alloc (.cells #[.slice (some ⟨gl, 0, none⟩) j cl] 32)) w5 from (Mod.refl _ _).grown hgrow5 (fun k hk _ => hk.symm ▸ rfl)); have B5 := BA.out.mod M5.out hcvp; have z2 := B5.at_ (i := 2) _ rfl; have z2f := B5.free 2; have hplz := B5.lt; clear B5 hgrow5 hlt5 y2 y2f y0 hpl1)
          have hgs' : (gs ++ [(gl, cl)]).map (fun (x : Nat × Nat) => Value.slice (some ⟨x.1, 0, none⟩) D.k x.2) = gs.map (fun (x : Nat × Nat) => Value.slice (some ⟨x.1, 0, none⟩) D.k x.2) ++ [.slice (some ⟨gl, 0, none⟩) j cl] := by
            rw [List.map_append, HK.out]; rfl
          have hFl := HX.out.fl
          have hgw := HGW.out
          have hsR := XR.out.fl
          obtain ⟨tag1, hG1, hG2⟩ := (XR.out.same ((Mod.refl (fun _ => False) wr).alloc (.cells #[.slice (some ⟨gl, 0, none⟩) j cl] 32))).grow (l := rowDD D v q j) (gl := gl) (cl := cl) (by rw [HK.out]; exact HLR.out.alloc _) (fun z => by have := hFl gl z; omega) (q := q5) (cap := c5) (by rw [HM.out, hgs']; exact hown5) M5.out (hq5.imp (fun z => z) (fun z => by omega)) (fun z => by
            have hll := HLR.out.lt
            rcases hq5 with h5 | h5
            · have := hFl q5 (XR.out.tc q5 h5).2; omega
            · simp at h5; omega)
          rw [HM.out] at hG1 hG2
          obtain ⟨w6, hw6⟩ : ∃ w6, w5.setCell ⟨p, 2, none⟩ (.slice (some ⟨q5, 0, none⟩) (m + 1) c5) = w6 := ⟨_, rfl⟩
          rw [hw6] at hG1 hG2 ⊢
          have G1 := Lib.hid hG1
          have HQ5 := Lib.hid (show F q5 ∨ w.heap.size ≤ q5 by
            rcases hq5 with h5 | h5
            · exact .inl (XR.out.tc q5 h5).2
            · right; simp at h5; have := J.out.size; have := N1.out.size; omega)
          have G2 := Lib.hid (show Mod F w w6 from (((N1.out.same J.out).mono (fun _ _ z => z.elim)).alloc _).then_ hG2 (fun i _ z => z))
          have a1 := hG1.blk.at_ (i := 1) _ rfl
          have a2 := hG1.blk.at_ (i := 2) _ rfl
          have hpa := hG1.blk.lt
          rw [HGA.out] at a1
          have HV1 : ({ D with ch := D.ch ++ [rowDD D v q j] } : DP).vols[i]? = some v := HV.out
          obtain ⟨g2, e2, -, -, hR2, -, hc2, hf2⟩ := hG1.cell (D := { D with ch := D.ch ++ [rowDD D v q j] }) HO.out.len HV1
          obtain rfl : g = g2 := by rw [HGA.out] at e2; injection e2 with e2; injection e2
          have hglA := hR2.lt
          have c5a := hc2 (5 + q) (by omega)
          rw [← Nat.add_assoc] at c5a
          have f5a := hf2 (i * 69 + 5 + q)
          obtain ⟨hP1, hP2⟩ := hG1.put (D := { D with ch := D.ch ++ [rowDD D v q j] }) (v' := { v with pl := v.pl.set q (m + 1) }) (j := 5 + q) (y := .int .i64 ((m : Int) + 1)) HO.out.len HV1 HGA.out (by rw [List.length_set]; exact HVL.out) (by omega) (dvL_other (v := v) (v' := { v with pl := v.pl.set q (m + 1) }) (k := q) (c := m + 1) rfl rfl rfl rfl rfl (by rw [HVL.out]; exact hx64) rfl) (by
            rw [dvL_pl (by show q < (v.pl.set q (m + 1)).length; rw [List.length_set, HVL.out]; exact hx64)]
            rw [getDD_set _ _ _ (by rw [HVL.out]; exact hx64), if_pos rfl]; rfl)
          rw [← Nat.add_assoc] at hP1 hP2
          obtain ⟨w7, hw7⟩ : ∃ w7, w6.setCell ⟨g, i * 69 + 5 + q, none⟩ (.int .i64 ((m : Int) + 1)) = w7 := ⟨_, rfl⟩
          rw [hw7] at hP1 hP2
          have HGD := Lib.hid (show ({ k := D.k, vols := D.vols.set i { v with pl := v.pl.set q (m + 1) }, ch := D.ch ++ [rowDD D v q j], births := D.births } : DP) = grown D i q v by
            unfold grown rowDD
            rw [HM.out, HK.out])
          have P7 := Lib.hid (grown_alone hP1 HGD.out)
          have M7 := Lib.hid hP2
          have HNV := Lib.hid (show ({ D with ch := D.ch ++ [rowDD D v q j] } : DP).vols.length = n from HN.out)
          rw [HNV.out] at a1
          clear hgs' hFl hgw hsR hG1 hG2 hq5 hcvp hR2 hc2 hf2 hP1 hP2 z2 z2f hplz hown5 HV1 e2 hw6
          go_upto_region 11 with fail
          try rw [hw7]
          clear hw7 a1 a2 c5a f5a hglA hpa
          have hml : m + 1 ≤ (grown D i q v).ch.length := by
            show m + 1 ≤ (D.ch ++ [_]).length
            rw [List.length_append, HM.out]; exact Nat.le_refl _
          have hgk : (grown D i q v).k = j := HK.out
          obtain ⟨qb, cap, gg, gcap, hcv2, -, -, hqb, hcc, -, hRR, htg, hFg, hgs2⟩ := P7.out.chunk HGR.out (c := m + 1) (by omega) hml
          obtain ⟨hP1, hP2⟩ := (P7.out.same ((Mod.refl (fun _ => False) w7).drew)).sec HGR.out (c := m + 1) (by omega) hml (x := r) (by rw [hgk]; exact hrl) hRR.drew htg hFg hgs2 s
          have P8 := Lib.hid hP1
          have M8 := Lib.hid hP2
          have b0 := P7.out.blk.at_ (i := 0) _ rfl
          have b2 := P7.out.blk.at_ (i := 2) _ rfl
          have hpb := P7.out.blk.lt
          rw [hgk] at hcc b0
          injection hcv2 with hcv3 hcv4 hcv5
          injection hcv3 with hcv3
          injection hcv3 with hcv3
          rw [← hcv3, Nat.add_sub_cancel] at hcc
          rw [← hcv3] at hqb
          have hggl := hRR.lt
          have r0 := hRR.cell r (by rw [hgk]; exact hrl)
          have rf := hRR.free r
          have wS : IntKind.i64.wrap ((m : Int) + 1 - 1) = (m : Int) := by rw [show (m : Int) + 1 - 1 = (m : Int) by omega]; exact IntWalk.i64_in _ (by omega)
          have wS2 : IntKind.i64.wrap (m : Int) = (m : Int) := IntWalk.i64_in _ (by omega)
          have wk0 : ¬ j = 0 := by omega
          have wC0 : (0 : Int) ≤ (m : Int) := by omega
          have wC1 : (m : Int) < (m : Int) + 1 := by omega
          have wR1 : ((r : Nat) : Int) < (j : Int) := by omega
          clear hP1 hP2 hRR hgs2 hcv3 hcv4 hcv5 htg hFg hgk
          go_wp2_with fail
          go_still_tail 16, (by kernel_rfl)
          change wpList _ _ _ _ _ w7.drew
          go_wp2_with fail
          go_end0
          have hws : w.heap.size ≤ wr.heap.size := (N1.out.same J.out).size
          exact HR.out _ _ ⟨rfl, ⟨_, ⟨HOK.out, _, _, _, _, _, by rw [HSET.out]; exact P8.out⟩, fun y hy => by
            have hgl2 := HGW.out
            rcases hy with hy | rfl | rfl
            · exact .inl hy
            · exact .inr hgl2
            · exact HQ5.out.elim (fun z => .inl z) (fun z => .inr z)⟩, ((G2.out.then_ M7.out (fun y hyl hy => hy.elim (fun z => z) (fun z => z.elim (fun e => by have := HGW.out; omega) (fun e => HQ5.out.elim (fun z => e ▸ z) (fun z => by omega))))).drew).then_ M8.out (fun y hyl hy => hy.elim (fun z => z) (fun z => z.elim (fun e => by have := HGW.out; omega) (fun e => HQ5.out.elim (fun z => e ▸ z) (fun z => by omega))))⟩
  · rw [if_neg hneed] at HSET
    have hc0 : c ≠ 0 := fun e => hneed (.inl (by rw [HCQ.out]; exact e))
    have hc0b : ((c : Int) == 0) = false := by simpa using hc0
    have hown : ownD D c ≤ 1 := by
      rcases Nat.lt_or_ge 1 (ownD D c) with z | z
      · exact absurd (Or.inr (by rw [HCQ.out]; exact z)) hneed
      · exact z
    go_enter Tryz.func93, Tryz.ntmps93
    go_wp2_with fail
    refine (HOW.out _ (Mod.refl _ _) c).mono ?_
    rintro e w1 ⟨rfl, M⟩
    have N1 := Lib.hid M
    clear M
    have hcl := HBIG.out hc0
    have X1 := Lib.hid (HX.out.same N1.out)
    obtain ⟨qb, cap, gg, gcap, hcv, -, -, hqb, hcc, -, hRR, htg, hFg, hgs⟩ := X1.out.chunk HO.out hc0 hcl
    obtain ⟨hP1, hP2⟩ := (X1.out.same ((Mod.refl (fun _ => False) w1).drew)).sec HO.out hc0 hcl (x := r) (by rw [HK.out]; exact hrl) hRR.drew htg hFg hgs s
    have P1 := Lib.hid hP1
    have P2 := Lib.hid hP2
    have y0 := X1.out.blk.at_ (i := 0) _ rfl
    have y2 := X1.out.blk.at_ (i := 2) _ rfl
    rw [hcv] at y2
    have hpl1 := X1.out.blk.lt
    rw [HK.out] at hcc y0
    have hggl := hRR.lt
    have r0 := hRR.cell r (by rw [HK.out]; exact hrl)
    have rf := hRR.free r
    obtain ⟨c', rfl⟩ : ∃ c', c = c' + 1 := ⟨c - 1, by omega⟩
    rw [Nat.add_sub_cancel] at hcc
    obtain ⟨m, hm⟩ : ∃ m, D.ch.length = m := ⟨_, rfl⟩
    rw [hm] at hcl hC y2
    clear hP1 hP2 hRR hgs hcv hneed hm htg hFg x0 x1 c5
    go_wp2_with fail
    have wS : IntKind.i64.wrap ((c' : Int) + 1 - 1) = (c' : Int) := by rw [show (c' : Int) + 1 - 1 = (c' : Int) by omega]; exact IntWalk.i64_in _ (by omega)
    have wS2 : IntKind.i64.wrap (c' : Int) = (c' : Int) := IntWalk.i64_in _ (by omega)
    have wk0 : ¬ k = 0 := by omega
    have wk1 : (k == 0) = false := by simpa using wk0
    have wk2 : decide (k = 0) = false := decide_eq_false wk0
    have wC0 : (0 : Int) ≤ (c' : Int) := by omega
    have wC1 : (c' : Int) < (m : Int) := by omega
    have wR1 : ((r : Nat) : Int) < (k : Int) := by omega
    go_still_tail 16, (by kernel_rfl)
    change wpList _ _ _ _ _ w1.drew
    go_wp2_with fail
    go_end0
    exact HR.out _ _ ⟨rfl, ⟨F, ⟨HOK.out, _, _, _, _, _, by rw [HSET.out]; exact P1.out⟩, fun i => .inl⟩, ((N1.out.mono (fun _ _ q => q.elim)).drew).then_ P2.out (fun i _ q => q)⟩
end
end Go.Proofs.YtlcepoagpocadaaGreatDoor
set_option maxRecDepth 100000
/- The document's pool: sectors are written. -/
namespace Go.Proofs.YtlcepoagpocadaaGreatDoor
open Go Go.RowKit
theorem extract_list (t : List UInt8) (a b : Nat) : (⟨t.toArray⟩ : ByteArray).extract a b = ⟨((t.drop a).take (b - a)).toArray⟩ := by
  apply ByteArray.ext
  apply Array.ext'
  rw [ByteArray.data_extract, Array.toList_extract]
  first | done | simp [List.extract]
def cutT (t : List UInt8) (j : Nat) : List (List UInt8) := (List.range j).map fun i => (t.drop (16 * i)).take 16
theorem cutT_succ (t : List UInt8) (j : Nat) : cutT t (j + 1) = cutT t j ++ [(t.drop (16 * j)).take 16] := by unfold cutT; rw [List.range_succ, List.map_append]; rfl
theorem cutT_len (t : List UInt8) (j : Nat) : (cutT t j).length = j := by unfold cutT; simp
/-- What a pool is behind an order that turns sectors. -/
structure DTurn (F : Nat → Prop) (w : World) (p : Nat) (D : DP) (i : Nat) (v : DV) (m : Nat) (D' : DP) (F' : Nat → Prop) (w' : World) : Prop where
  dq : Dq F' w' p D'
  ff : ∀ i, F' i → F i ∨ w.heap.size ≤ i
  md : Mod F w w'
  vi : ∃ v', D'.vols[i]? = some v' ∧ v'.id = v.id ∧ v'.size = v.size
  k : D'.k = D.k
  births : D'.births = D.births
  vl : D'.vols.length = D.vols.length
  ch : D'.ch.length ≤ D.ch.length + m
section
variable {F : Nat → Prop} {w : World} {p : Nat} {D : DP}
theorem DTurn.refl (h : Dq F w p D) {i : Nat} {v : DV} (hv : D.vols[i]? = some v) : DTurn F w p D i v 0 D F w := ⟨h, fun i => .inl, Mod.refl _ _, ⟨v, hv, rfl, rfl⟩, rfl, rfl, rfl, Nat.le_refl _⟩
theorem DTurn.same {i m : Nat} {v : DV} {D' : DP} {F' : Nat → Prop} {w1 w2 : World} (h : DTurn F w p D i v m D' F' w1) (M : Same w1 w2) : DTurn F w p D i v m D' F' w2 :=
  ⟨h.dq.same M, h.ff, h.md.same M, h.vi, h.k, h.births, h.vl, h.ch⟩
theorem DTurn.less {i m m' : Nat} {v : DV} {D' : DP} {F' : Nat → Prop} {w1 : World} (h : DTurn F w p D i v m D' F' w1) (e : m ≤ m') : DTurn F w p D i v m' D' F' w1 :=
  ⟨h.dq, h.ff, h.md, h.vi, h.k, h.births, h.vl, Nat.le_trans h.ch (by omega)⟩
/-- One sector more. -/
theorem DTurn.set {i m : Nat} {v v' : DV} {D' : DP} {F' : Nat → Prop} {w1 w2 : World} (h : DTurn F w p D i v m D' F' w1) (hv : D'.vols[i]? = some v') (hid : v'.id = v.id) (hsz : v'.size = v.size) {x : Nat} {s : List UInt8}
    (h2 : ∃ F2, Dq F2 w2 p (setD D' i x v' s) ∧ ∀ i, F2 i → F' i ∨ w1.heap.size ≤ i) (M : Mod F' w1 w2) : ∃ F2, DTurn F w p D i v (m + 1) (setD D' i x v' s) F2 w2 := by
  obtain ⟨F2, hD, hF⟩ := h2
  obtain ⟨v2, a1, a2, a3, a4, a5, a6, a7⟩ := setD_at hv x s
  have hs := h.md.size
  refine ⟨F2, hD, fun y hy => ?_, h.md.then_ M (fun y hyl hy => (h.ff y hy).elim (fun z => z) (fun z => by omega)), ⟨v2, a1, a2.trans hid, a3.trans hsz⟩, a4.trans h.k, a5.trans h.births, a6.trans h.vl, by have := h.ch; omega⟩
  rcases hF y hy with z | z
  · exact h.ff y z
  · exact .inr (by omega)
set_option maxHeartbeats 8000000 in
theorem dwrite_any (h : Dq F w p D) (hB : D.vols.length ≤ 10000) (hC : D.ch.length ≤ 50000) {i : Nat} {v : DV} (hv : D.vols[i]? = some v) (x : Nat) (t : List UInt8) (ht : t.length % 16 = 0) (ht2 : t.length ≤ 512) {sz : Nat} (hsz : v.size = (sz : Int)) (hx : x + t.length / 16 ≤ sz * D.k) :
    Calls Tryz.prog 67 #[bp p, .int .i64 v.id, .int .i64 (x : Int), strV t] w fun e w' => e = .returned (.tuple #[]) ∧ ∃ D' F', WrR (cut16 t) (toMS D) v.id x (toMS D') ∧ DTurn F w p D i v 32 D' F' w' := by
  refine opq fun R HR => ?_
  have HD := Lib.hid h
  have HV := Lib.hid hv
  have HSZ := Lib.hid hsz
  have hk1 := h.1.k1
  have hk8 := h.1.k8
  have hs64 : sz ≤ 64 := by have := h.1.sizes v (List.mem_of_getElem? hv); omega
  obtain ⟨n, hn⟩ : ∃ n, t.length / 16 = n := ⟨_, rfl⟩
  have hn16 : t.length = 16 * n := by omega
  have HN16 := Lib.hid hn16
  rw [hn] at hx
  have hmul : sz * D.k ≤ 64 * 8 := Nat.mul_le_mul hs64 hk8
  have hnn : n ≤ 32 := by omega
  have HX := Lib.hid hx
  have HCT := Lib.hid (show cut16 t = cutT t n by unfold cut16 cutT; rw [hn])
  rw [HCT.out] at HR
  have HT := Lib.hid (fun a b => extract_list t a b)
  have hts : (⟨t.toArray⟩ : ByteArray).size = 16 * n := by rw [bytes_size, hn16]
  have hx512 : x + n ≤ 512 := by omega
  have START := Lib.hid (DTurn.refl h hv)
  obtain ⟨T, hT⟩ : ∃ T : ByteArray, (⟨t.toArray⟩ : ByteArray) = T := ⟨_, rfl⟩
  unfold bp strV at *
  rw [hT] at hts HT ⊢
  clear h hv hsz hn hn16 hx hT hmul
  go_enter Tryz.func67, Tryz.ntmps67
  go_wp2_with fail
  go_loopw [8] (fun kk wr => ∃ (j : Nat) (D' : DP) (F' : Nat → Prop), j ≤ n ∧ kk = .int .i64 j ∧ WrR (cutT t j) (toMS D) v.id x (toMS D') ∧ DTurn F w p D i v j D' F' wr) (fun kk _ => n - (intOf kk).toNat)
  case atStart => exact ⟨0, D, F, Nat.zero_le _, rfl, rfl, START.out⟩
  case round =>
    obtain ⟨j, D', F', hj, rfl, hW, hTu⟩ := hrel
    have W0 := Lib.hid hW
    have TU := Lib.hid hTu
    clear hW hTu
    by_cases hlt : j < n
    · obtain ⟨v', hv', hid', hsz'⟩ := TU.out.vi
      have HV' := Lib.hid hv'
      have HID := Lib.hid hid'
      have HSZ' := Lib.hid hsz'
      have hF := Lib.hid (fun W (M : Same wr W) => dfind_any (TU.out.dq.same M) (by rw [TU.out.vl]; omega) v.id)
      have hS := Lib.hid (fun W (M : Same wr W) => dset_any (TU.out.dq.same M) (by rw [TU.out.vl]; omega) (by have := TU.out.ch; omega) hv' (x + j) (by
        rw [hsz', HSZ.out, TU.out.k]
        have h1 : (x + j) / D.k < sz := (Nat.div_lt_iff_lt_mul (by omega)).2 (by have := HX.out; omega)
        exact_mod_cast h1) ((t.drop (16 * j)).take 16) (by rw [List.length_take, List.length_drop, HN16.out]; omega))
      have HE := Lib.hid (HT.out (16 * j) (16 * j + 16))
      rw [show 16 * j + 16 - 16 * j = 16 by omega] at HE
      unfold strV at hS
      unfold bp at hF hS
      rw [Int.natCast_add, ← HE.out] at hS
      have b1 : (0 : Int) ≤ 16 * (j : Int) := by omega
      have b2 : 16 * (j : Int) ≤ 16 * (j : Int) + 16 := by omega
      have b3 : 16 * (j : Int) + 16 ≤ 16 * (n : Int) := by omega
      have b3n : 16 * j + 16 ≤ 16 * n := by omega
      have b4 : IntKind.i64.wrap (16 * (j : Int)) = 16 * (j : Int) := IntWalk.i64_in _ (by omega)
      have b5 : IntKind.i64.wrap (16 * (j : Int) + 16) = 16 * (j : Int) + 16 := IntWalk.i64_in _ (by omega)
      have b6 : (16 * (j : Int)).toNat = 16 * j := by omega
      have b7 : (16 * (j : Int) + 16).toNat = 16 * j + 16 := by omega
      have b8 : IntKind.i64.wrap ((x : Int) + (j : Int)) = (x : Int) + (j : Int) := IntWalk.i64_in _ (by omega)
      have b9 : ((T.size : Nat) : Int) = 16 * (n : Int) := by rw [hts]; omega
      have b10 : 16 * (j : Int) ≤ 16 * (n : Int) := by omega
      clear hv' hid' hsz'
      go_wp2_with fail
      go_region_held3 (fun W => True) (first | trivial | assumption) ((
        first
        | (go_at_call 66; refine (hF.out _ ((Mod.refl _ _).drew)).mono ?_; rintro e w2 ⟨r, rfl, hr, M⟩; obtain rfl := find_hit TU.out.dq.1 HV'.out (by rw [HID.out]; exact hr); have J2 := Lib.hid (show Same wr w2 from ((Mod.refl _ wr).drew).same M); clear M hr)
        | (go_at_call 93; refine (hS.out _ J2.out).mono ?_; rintro e w3 ⟨rfl, hq, M⟩)))
      have HQ := Lib.hid hq
      have M3 := Lib.hid M
      clear hq M
      go_wp2_with fail
      go_roundw
      case rel =>
        obtain ⟨F2, hT2⟩ := (TU.out.same J2.out).set HV'.out HID.out HSZ'.out HQ.out M3.out
        refine ⟨j + 1, _, F2, by omega, by go_num, ?_, hT2⟩
        rw [cutT_succ]
        refine W0.out.snoc ?_
        rw [cutT_len]
        have := (set_rel TU.out.dq.1 HV'.out (x := x + j) (by
          rw [HSZ'.out, HSZ.out, TU.out.k]
          have h1 : (x + j) / D.k < sz := (Nat.div_lt_iff_lt_mul (by omega)).2 (by have := HX.out; omega)
          exact_mod_cast h1) (s := (t.drop (16 * j)).take 16) (by rw [List.length_take, List.length_drop, HN16.out]; omega)).1
        rw [HID.out] at this
        exact this
      case measure => simp [intOf]; omega
    · obtain rfl : j = n := by omega
      go_wp2_with fail
      go_end0
      exact HR.out _ _ ⟨rfl, D', F', W0.out, TU.out.less hnn⟩
end
end Go.Proofs.YtlcepoagpocadaaGreatDoor
set_option maxRecDepth 100000
/- The document's pool: sectors are discarded. -/
namespace Go.Proofs.YtlcepoagpocadaaGreatDoor
open Go Go.RowKit
section
variable {F : Nat → Prop} {w : World} {p : Nat} {D : DP}
/-- A place is discarded as a whole. -/
theorem DTurn.zero {i m : Nat} {v v' : DV} {D' : DP} {F' : Nat → Prop} {w1 w2 : World} (h : DTurn F w p D i v m D' F' w1) (hv : D'.vols[i]? = some v') (hid : v'.id = v.id) (hsz : v'.size = v.size) {q : Nat}
    (h2 : Dq F' w2 p (zeroP D' i q v')) (M : Mod F' w1 w2) : DTurn F w p D i v m (zeroP D' i q v') F' w2 := by
  have hs := h.md.size
  refine ⟨h2, h.ff, h.md.then_ M (fun y hyl hy => (h.ff y hy).elim (fun z => z) (fun z => by omega)), ⟨{ v' with pl := v'.pl.set q 0 }, ?_, hid, hsz⟩, h.k, h.births, ?_, h.ch⟩
  · unfold zeroP; dsimp only; rw [List.getElem?_set_self (List.getElem?_eq_some_iff.1 hv).1]
  · show (D'.vols.set i _).length = _; rw [List.length_set]; exact h.vl
def idxD (n a y : Nat) : Nat := min n (y - a)
theorem disR_snoc {S S1 S2 : MS} {id : Int} {a n m : Nat} (h : DisR S id a n m S1) (h2 : DisS S1 id a n (a + m) S2) : DisR S id a n (m + 1) S2 := ⟨S1, h, h2⟩
set_option maxHeartbeats 16000000 in
theorem ddiscard_any (h : Dq F w p D) (hB : D.vols.length ≤ 10000) (hC : D.ch.length ≤ 50000) {i : Nat} {v : DV} (hv : D.vols[i]? = some v) (a n : Nat) (hn1 : 1 ≤ n) (hn2 : n ≤ 16) {sz : Nat} (hsz : v.size = (sz : Int)) (hx : a + n ≤ sz * D.k) :
    Calls Tryz.prog 68 #[bp p, .int .i64 v.id, .int .i64 (a : Int), .int .i64 (n : Int)] w fun e w' => e = .returned (.tuple #[]) ∧ ∃ D' F', DisR (toMS D) v.id a n n (toMS D') ∧ DTurn F w p D i v 16 D' F' w' := by
  refine opq fun R HR => ?_
  have HD := Lib.hid h
  have HV := Lib.hid hv
  have HSZ := Lib.hid hsz
  have hk1 := h.1.k1
  have hk8 := h.1.k8
  have hs64 : sz ≤ 64 := by have := h.1.sizes v (List.mem_of_getElem? hv); omega
  have HF := Lib.hid (dfind_any h (by omega) v.id)
  have START := Lib.hid (DTurn.refl h hv)
  have hmul0 : sz * D.k ≤ 64 * 8 := Nat.mul_le_mul hs64 hk8
  obtain ⟨k, hk⟩ : ∃ k, D.k = k := ⟨_, rfl⟩
  have HK := Lib.hid hk
  rw [hk] at hk1 hk8 hx hmul0
  have hx512 : a + n ≤ 512 := by omega
  have hk0 : ¬ (k : Int) = 0 := by omega
  have hk0b : ((k : Int) == 0) = false := beq_eq_false_iff_ne.2 hk0
  have hq0 : ((a : Int)).tdiv (k : Int) = ((a / k : Nat) : Int) := by rw [Int.tdiv_eq_ediv_of_nonneg (by omega)]; rfl
  have hq1 : ((a : Int) + (n : Int) - 1).tdiv (k : Int) = (((a + n - 1) / k : Nat) : Int) := by
    rw [show (a : Int) + (n : Int) - 1 = ((a + n - 1 : Nat) : Int) by omega, Int.tdiv_eq_ediv_of_nonneg (by omega)]; rfl
  obtain ⟨P0, hP0⟩ : ∃ P0, a / k = P0 := ⟨_, rfl⟩
  obtain ⟨P1, hP1⟩ : ∃ P1, (a + n - 1) / k = P1 := ⟨_, rfl⟩
  rw [hP0] at hq0
  rw [hP1] at hq1
  have h1 : P0 * k ≤ a := by rw [← hP0]; exact Nat.div_mul_le_self a k
  have h2 : a < (P0 + 1) * k := by rw [← hP0, Nat.add_mul, Nat.one_mul]; have := Nat.div_add_mod a k; have h3 := Nat.mod_lt a (show 0 < k by omega); rw [Nat.mul_comm] at this; omega
  have h3 : P1 * k ≤ a + n - 1 := by rw [← hP1]; exact Nat.div_mul_le_self _ k
  have h4 : a + n - 1 < (P1 + 1) * k := by rw [← hP1, Nat.add_mul, Nat.one_mul]; have := Nat.div_add_mod (a + n - 1) k; have h3 := Nat.mod_lt (a + n - 1) (show 0 < k by omega); rw [Nat.mul_comm] at this; omega
  have hP1s : P1 < sz := by rw [← hP1]; exact (Nat.div_lt_iff_lt_mul (by omega)).2 (by omega)
  have hP01 : P0 ≤ P1 := by rw [← hP0, ← hP1]; exact Nat.div_le_div_right (by omega)
  have HA := Lib.hid (show P0 * k ≤ a ∧ a < (P0 + 1) * k ∧ P1 * k ≤ a + n - 1 ∧ a + n - 1 < (P1 + 1) * k from ⟨h1, h2, h3, h4⟩)
  have hq0w : IntKind.i64.wrap ((P0 : Nat) : Int) = (P0 : Int) := IntWalk.i64_in _ (by omega)
  have hq1w : IntKind.i64.wrap ((P1 : Nat) : Int) = (P1 : Int) := IntWalk.i64_in _ (by omega)
  have hb1 : D.vols.length ≤ 10000 := hB
  unfold bp at *
  obtain ⟨ga, gc, cv, gs, tag, hX⟩ := h.2
  have x0 := hX.blk.at_ (i := 0) _ rfl
  have hpl := hX.blk.lt
  rw [hk] at x0
  clear h hv hsz hk hx hX hP0 hP1 h1 h2 h3 h4 hmul0
  go_enter Tryz.func68, Tryz.ntmps68
  go_wp2_with fail
  refine HF.out.mono ?_
  rintro e w1 ⟨r, rfl, hr, M⟩
  obtain rfl := find_hit HD.out.1 HV.out hr
  have N1 := Lib.hid M
  have T1 := Lib.hid (START.out.same M)
  have y0 := (M.cell hpl (fun q => q) 0).trans x0
  have hpl1 : p < w1.heap.size := Nat.lt_of_lt_of_le hpl M.size
  clear M hr x0 hpl
  go_wp2_with fail
  go_loopw [9] (fun kk wr => ∃ (q : Nat) (D' : DP) (F' : Nat → Prop), P0 ≤ q ∧ q ≤ P1 + 1 ∧ kk = .int .i64 q ∧ DisR (toMS D) v.id a n (idxD n a (q * k)) (toMS D') ∧ DTurn F w p D i v (idxD n a (q * k)) D' F' wr) (fun kk _ => P1 + 1 - (intOf kk).toNat)
  case atStart => exact ⟨P0, D, F, Nat.le_refl _, by omega, rfl, by
    have : idxD n a (P0 * k) = 0 := by unfold idxD; have := HA.out.1; omega
    rw [this]
    exact ⟨rfl, T1.out⟩⟩
  case round =>
    obtain ⟨q, D', F', hqa, hqb, rfl, hW, hTu⟩ := hrel
    have W0 := Lib.hid hW
    have TU := Lib.hid hTu
    obtain ⟨ga2, gc2, cv2, gs2, tag2, hX⟩ := hTu.dq.2
    have HX := Lib.hid hX
    have HKD := Lib.hid (show D'.k = k from hTu.k.trans HK.out)
    have z0 := hX.blk.at_ (i := 0) _ rfl
    have z1 := hX.blk.at_ (i := 1) _ rfl
    have hpl2 := hX.blk.lt
    rw [HKD.out] at z0
    obtain ⟨v', hv', hid', hsz'⟩ := hTu.vi
    have HV' := Lib.hid hv'
    have HID := Lib.hid hid'
    have HSZ' := Lib.hid hsz'
    have hvl := hTu.dq.1.len v' (List.mem_of_getElem? hv')
    have HVL := Lib.hid hvl
    obtain ⟨g, hga, -, -, hR, hil, hc, hf⟩ := hX.cell hTu.dq.1.len hv'
    have HGA := Lib.hid hga
    rw [hga] at z1
    obtain ⟨nv, hnv⟩ : ∃ nv, D'.vols.length = nv := ⟨_, rfl⟩
    rw [hnv] at z1 hil
    have HNV := Lib.hid hnv
    have hglt := hR.lt
    clear hW hTu hX hv' hid' hsz' hR hga hnv
    by_cases hle : q ≤ P1
    · have hq64 : q < 64 := by omega
      obtain ⟨b, hb⟩ : ∃ b, q * k = b := ⟨_, rfl⟩
      have hbb : b ≤ 512 := by rw [← hb]; exact Nat.le_trans (Nat.mul_le_mul (by omega : q ≤ 64) hk8) (by decide)
      have hbk : (q : Int) * (k : Int) = (b : Int) := by rw [← hb]; simp
      have hbk2 : ((q : Int) + 1) * (k : Int) = (b : Int) + (k : Int) := by rw [Int.add_mul, hbk, Int.one_mul]
      have hb2 : (q + 1) * k = b + k := by rw [Nat.add_mul, hb, Nat.one_mul]
      have HB2 := Lib.hid hb2
      have HBQ := Lib.hid hb
      rw [hb] at W0 TU
      have c5 := hc (5 + q) (by omega)
      rw [dvL_pl (by rw [hvl]; exact hq64), ← Nat.add_assoc] at c5
      have f5 := hf (i * 69 + 5 + q)
      by_cases hw : a ≤ b ∧ b + k ≤ a + n
      · obtain ⟨hw1, hw2⟩ := hw
        obtain ⟨hP1, hP2⟩ := HX.out.put (v' := { v' with pl := v'.pl.set q 0 }) (j := 5 + q) (y := .int .i64 0) TU.out.dq.1.len HV'.out HGA.out (by rw [List.length_set]; exact HVL.out) (by omega) (dvL_other (v := v') (v' := { v' with pl := v'.pl.set q 0 }) (k := q) (c := 0) rfl rfl rfl rfl rfl (by rw [HVL.out]; exact hq64) rfl) (by
          rw [dvL_pl (by show q < (v'.pl.set q 0).length; rw [List.length_set, HVL.out]; exact hq64)]
          rw [getDD_set _ _ _ (by rw [HVL.out]; exact hq64), if_pos rfl]; rfl)
        rw [← Nat.add_assoc] at hP1 hP2
        have PP := Lib.hid (show Dq F' (wr.setCell ⟨g, i * 69 + 5 + q, none⟩ (.int .i64 0)) p (zeroP D' i q v') from ⟨TU.out.dq.1.zero HV'.out q, _, _, _, _, _, hP1⟩)
        have PM := Lib.hid hP2
        have hwS : wholeS D'.k a n q = true := by
          unfold wholeS
          rw [HKD.out, HBQ.out, HB2.out]
          simp [hw1, hw2]
        have e1 : idxD n a b = b - a := by unfold idxD; omega
        have e2 : idxD n a (b + k) = b - a + k := by unfold idxD; omega
        have hDR := dis_whole TU.out.dq.1 HV'.out (S := toMS D) hwS (by rw [HKD.out, HBQ.out, HID.out, ← e1]; exact W0.out) D'.k (by rw [HKD.out]; omega) (Nat.le_refl _)
        rw [HKD.out, HBQ.out, HID.out, ← e2] at hDR
        have HDR := Lib.hid hDR
        have HLE := Lib.hid (show idxD n a b ≤ idxD n a (b + k) by unfold idxD; omega)
        clear hc hf hvl hP1 hP2 hwS hDR e1 e2
        go_wp2_with fail
        go_roundw
        case rel => exact ⟨q + 1, zeroP D' i q v', F', by omega, by omega, by go_num, by rw [HB2.out]; exact HDR.out, by rw [HB2.out]; exact (TU.out.zero HV'.out HID.out HSZ'.out PP.out PM.out).less HLE.out⟩
        case measure => simp [intOf]; omega
      · have HNW := Lib.hid (show wholeS k a n q = false by
          unfold wholeS
          rw [HBQ.out, HB2.out]
          rcases Nat.lt_or_ge b a with z | z
          · simp; intro z2; omega
          · have : ¬ b + k ≤ a + n := fun z2 => hw ⟨z, z2⟩
            simp; intro _; omega)
        have hnw : (decide ((a : Int) ≤ (b : Int)) && decide ((b : Int) + (k : Int) ≤ (a : Int) + (n : Int))) = false := by
          rcases Nat.lt_or_ge b a with z | z
          · simp; intro z2; omega
          · have : ¬ b + k ≤ a + n := fun z2 => hw ⟨z, z2⟩
            simp; intro _; omega
        have mk := make16
        have cn := fun (W : World) => conv_new W
        have HSTEP := Lib.hid (show ∀ y, b ≤ y → y < b + k → y / k = q from fun y h1 h2 => by
          have : q * k ≤ y := by rw [HBQ.out]; exact h1
          exact (Nat.div_eq_iff (by omega)).2 ⟨by rw [Nat.mul_comm] at this; rw [HBQ.out]; omega, by rw [HBQ.out]; omega⟩)
        clear hc hf hvl c5 f5 z1 hil hglt
        go_upto_region 4 with fail
        go_cut [53] (fun z wx => z = .bool false ∧ wx = wr)
        case first =>
          clear HR
          by_cases hab : a ≤ b
          · have hab2 : ¬ b + k ≤ a + n := fun z2 => hw ⟨hab, z2⟩
            clear hw
            go_wp2_with fail
            all_goals go_meet
            all_goals exact ⟨by first | (simp; done) | (simp; omega), rfl⟩
          · clear hw
            go_wp2_with fail
            all_goals go_meet
            all_goals exact ⟨by first | (simp; done) | (simp; omega), rfl⟩
        case rest =>
          obtain ⟨rfl, rfl⟩ := hcut
          clear hw
          go_upto_region 7 with fail
          go_loopw [10] (fun jj w2 => ∃ (y : Nat) (D2 : DP) (F2 : Nat → Prop), b ≤ y ∧ y ≤ b + k ∧ jj = .int .i64 y ∧ DisR (toMS D) v.id a n (idxD n a y) (toMS D2) ∧ DTurn F w p D i v (idxD n a y) D2 F2 w2) (fun jj _ => b + k - (intOf jj).toNat)
          case atStart => exact ⟨b, D', F', Nat.le_refl _, by omega, rfl, W0.out, TU.out⟩
          case round =>
            obtain ⟨y, D2, F2, hya, hyb, rfl, hW2, hT2⟩ := hrel
            have W2 := Lib.hid hW2
            have T2 := Lib.hid hT2
            obtain ⟨ga3, gc3, cv3, gs3, tag3, hX3⟩ := hT2.dq.2
            have HKD2 := Lib.hid (show D2.k = k from hT2.k.trans HK.out)
            have s0 := hX3.blk.at_ (i := 0) _ rfl
            have s1 := hX3.blk.at_ (i := 1) _ rfl
            have hpl3 := hX3.blk.lt
            rw [HKD2.out] at s0
            obtain ⟨v2, hv2, hid2, hsz2⟩ := hT2.vi
            have HV2 := Lib.hid hv2
            have HID2 := Lib.hid hid2
            have HSZ2 := Lib.hid hsz2
            have hvl2 := hT2.dq.1.len v2 (List.mem_of_getElem? hv2)
            obtain ⟨g3, hga3, -, -, hR3, hil3, hc3, -⟩ := hX3.cell hT2.dq.1.len hv2
            rw [hga3] at s1
            obtain ⟨nv3, hnv3⟩ : ∃ nv3, D2.vols.length = nv3 := ⟨_, rfl⟩
            rw [hnv3] at s1 hil3
            have hgl3 := hR3.lt
            have c6 := hc3 (5 + q) (by omega)
            rw [dvL_pl (by rw [hvl2]; exact hq64), ← Nat.add_assoc] at c6
            have hch3 := hT2.ch
            have hvl3 := hT2.vl
            clear hW2 hT2 hX3 hv2 hid2 hsz2 hR3 hga3 hnv3 hc3 hvl2
            by_cases hlt : y < b + k
            · have hyq := HSTEP.out y hya hlt
              have HYQ := Lib.hid hyq
              clear hyq
              by_cases hin : a ≤ y ∧ y < a + n
              · obtain ⟨hin1, hin2⟩ := hin
                have e1 : idxD n a y = y - a := by unfold idxD; omega
                have e2 : idxD n a (y + 1) = y - a + 1 := by unfold idxD; omega
                have hch4 : D2.ch.length ≤ 99999 := by omega
                have HE1 := Lib.hid e1
                have HE2 := Lib.hid e2
                have HXX := Lib.hid (show ((y / D2.k : Nat) : Int) < v2.size by rw [HKD2.out, HYQ.out, HSZ2.out, HSZ.out]; omega)
                have HDP := Lib.hid (dis_part T2.out.dq.1 HV2.out (a := a) (n := n) (x := y) (by rw [HKD2.out, HYQ.out]; exact HNW.out) HXX.out)
                have HDD := Lib.hid (show disD D2 i y v2 = if v2.pl.getD q 0 = 0 then D2 else setD D2 i y v2 zero16 by unfold disD; rw [HKD2.out, HYQ.out])
                have HSET := Lib.hid (fun W (M : Same wr W) => show Calls Tryz.prog 93 #[.pointer (some ⟨p, 0, none⟩), .int .i64 (i : Int), .int .i64 (y : Int), .string ⟨#[0, 0, 0, 0, 0, 0, 0, 0, 0, 0, 0, 0, 0, 0, 0, 0]⟩] W fun e w' => e = .returned (.tuple #[]) ∧ (∃ F', Dq F' w' p (setD D2 i y v2 zero16) ∧ ∀ i, F' i → F2 i ∨ W.heap.size ≤ i) ∧ Mod F2 W w' from dset_any (T2.out.dq.same M) (by rw [hvl3]; omega) hch4 HV2.out y HXX.out zero16 rfl)
                clear e1 e2
                by_cases hc0 : v2.pl.getD q 0 = 0
                · rw [if_pos hc0] at HDD
                  rw [hc0] at c6
                  go_wp2_with fail
                  go_roundw
                  case rel => exact ⟨y + 1, D2, F2, by omega, by omega, by go_num, by
                    have hh := HDP.out.1
                    rw [HDD.out, HID2.out] at hh
                    rw [HE2.out]
                    exact disR_snoc (by rw [← HE1.out]; exact W2.out) (by rw [show a + (y - a) = y by omega]; exact hh), by rw [HE2.out, ← HE1.out]; exact T2.out.less (Nat.le_succ _)⟩
                  case measure => simp [intOf]; omega
                · rw [if_neg hc0] at HDD
                  obtain ⟨c, hcc⟩ : ∃ c, v2.pl.getD q 0 = c := ⟨_, rfl⟩
                  rw [hcc] at c6 hc0
                  have hcn : ((c : Int) != 0) = true := by simpa using hc0
                  have hcb : ((c : Int) == 0) = false := by simpa using hc0
                  clear hcc
                  go_wp2_with fail
                  refine (HSET.out _ ((Mod.refl _ _).alloc _)).mono ?_
                  rintro e w5 ⟨rfl, hq5, M5⟩
                  have HQ5 := Lib.hid hq5
                  have M5' := Lib.hid M5
                  have JA := Lib.hid (show Same wr (wr.alloc (.cells #[.int .u8 0, .int .u8 0, .int .u8 0, .int .u8 0, .int .u8 0, .int .u8 0, .int .u8 0, .int .u8 0, .int .u8 0, .int .u8 0, .int .u8 0, .int .u8 0, .int .u8 0, .int .u8 0, .int .u8 0, .int .u8 0] 5)) from (Mod.refl _ _).alloc _)
                  clear hq5 M5
                  go_wp2_with fail
                  go_roundw
                  case rel =>
                    obtain ⟨F3, hT3⟩ := (T2.out.same JA.out).set HV2.out HID2.out HSZ2.out HQ5.out M5'.out
                    exact ⟨y + 1, setD D2 i y v2 zero16, F3, by omega, by omega, by go_num, by
                      have hh := HDP.out.1
                      rw [HDD.out, HID2.out] at hh
                      rw [HE2.out]
                      exact disR_snoc (by rw [← HE1.out]; exact W2.out) (by rw [show a + (y - a) = y by omega]; exact hh), by rw [HE2.out, ← HE1.out]; exact hT3⟩
                  case measure => simp [intOf]; omega
              · have e3 : idxD n a (y + 1) = idxD n a y := by unfold idxD; omega
                have HE3 := Lib.hid e3
                clear e3
                by_cases hin1 : a ≤ y
                · have hin2 : ¬ y < a + n := fun z => hin ⟨hin1, z⟩
                  clear hin
                  go_wp2_with fail
                  go_roundw
                  case rel => exact ⟨y + 1, D2, F2, by omega, by omega, by go_num, by rw [HE3.out]; exact W2.out, by rw [HE3.out]; exact T2.out⟩
                  case measure => simp [intOf]; omega
                · clear hin
                  go_wp2_with fail
                  go_roundw
                  case rel => exact ⟨y + 1, D2, F2, by omega, by omega, by go_num, by rw [HE3.out]; exact W2.out, by rw [HE3.out]; exact T2.out⟩
                  case measure => simp [intOf]; omega
            · obtain rfl : y = b + k := by omega
              go_wp2_with fail
              exact ⟨⟨q + 1, D2, F2, by omega, by omega, by go_num, by rw [HB2.out]; exact W2.out, by rw [HB2.out]; exact T2.out⟩, by simp [intOf]; omega⟩
    · obtain rfl : q = P1 + 1 := by omega
      have hfin : idxD n a ((P1 + 1) * k) = n := by unfold idxD; have := HA.out.2.2.2; omega
      rw [hfin] at W0 TU
      clear hc hf hvl
      go_wp2_with fail
      go_end0
      exact HR.out _ _ ⟨rfl, D', F', W0.out, TU.out.less hn2⟩
end
end Go.Proofs.YtlcepoagpocadaaGreatDoor
