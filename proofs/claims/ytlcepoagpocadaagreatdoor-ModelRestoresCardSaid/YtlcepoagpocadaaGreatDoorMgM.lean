import Derived.Test.YtlcepoagpocadaaGreatDoorMgL
set_option linter.unusedSimpArgs false
set_option linter.unusedVariables false
set_option maxRecDepth 100000
/- Of each chunk the sectors that are told (texts). -/
namespace Go.Proofs.YtlcepoagpocadaaGreatDoor
open Go Go.RowKit
def FitD (S : MS) (D : List (List UInt8)) : Prop :=
  D.length = S.vols.length ∧ (∀ x ∈ S.vols.zip D, x.2.length = x.1.size.toNat * S.k * 16) ∧ FitP (tellA S.k (S.vols.zip D))
theorem make167 (w : World) : (Instr.makeMap 167 none).run Tryz.prog w = .ok (.map (some w.heap.size)) (w.alloc (.map #[] 0)) := by kernel_rfl
theorem tellA_mem {k i p : Nat} {l : List (Vo × List UInt8)} {x : Vo × List UInt8} (h : l[i]? = some x) (hp : p < x.1.size.toNat) : (getL (p : Int) x.1.pl, toldL k x.2 p) ∈ tellA k l := by
  unfold tellA
  refine List.mem_flatMap.2 ⟨x, List.mem_of_getElem? h, ?_⟩
  unfold tellV
  exact List.mem_map.2 ⟨p, List.mem_range.2 hp, rfl⟩
theorem tellV_sub {k i p : Nat} {l : List (Vo × List UInt8)} {x : Vo × List UInt8} (h : l[i]? = some x) (hp : p ≤ x.1.size.toNat) : ∀ y ∈ tellA k (l.take i) ++ tellV k x.1 x.2 p, y ∈ tellA k l := by
  intro y hy
  rcases List.mem_append.1 hy with hy | hy
  · unfold tellA at hy ⊢
    obtain ⟨z, hz, h2⟩ := List.mem_flatMap.1 hy
    exact List.mem_flatMap.2 ⟨z, List.mem_of_mem_take hz, h2⟩
  · unfold tellV at hy
    obtain ⟨q, hq, rfl⟩ := List.mem_map.1 hy
    exact tellA_mem h (Nat.lt_of_lt_of_le (List.mem_range.1 hq) hp)
theorem tellA_live {k : Nat} {S : MS} {D : List (List UInt8)} {y : Pr} (hy : y ∈ tellA k (S.vols.zip D)) {c : Nat} (hc : y.1 = some c) : ∃ v ∈ S.vols, ∃ x ∈ v.pl, x.2 = c := by
  unfold tellA at hy
  obtain ⟨z, hz, h2⟩ := List.mem_flatMap.1 hy
  unfold tellV at h2
  obtain ⟨q, hq, rfl⟩ := List.mem_map.1 h2
  exact ⟨z.1, (List.of_mem_zip hz).1, _, getL_mem hc, rfl⟩
theorem FitP.add {pre : List Pr} {q : Option Nat} {s : List (List UInt8)} (h : FitP pre) (h0 : q = none → s.all (fun x => x == zero16) = true) (h1 : ∀ c, q = some c → ∀ s', (some c, s') ∈ pre → s' = s) : FitP (pre ++ [(q, s)]) := by
  constructor
  · intro s' hs
    rcases List.mem_append.1 hs with hs | hs
    · exact h.zero _ hs
    · cases List.mem_singleton.1 hs
      exact h0 rfl
  · intro c s1 s2 a b
    rcases List.mem_append.1 a with a1 | a1 <;> rcases List.mem_append.1 b with b1 | b1
    · exact h.one _ _ _ a1 b1
    · cases List.mem_singleton.1 b1
      exact h1 c rfl _ a1
    · cases List.mem_singleton.1 a1
      exact (h1 c rfl _ b1).symm
    · cases List.mem_singleton.1 a1
      cases List.mem_singleton.1 b1
      rfl
section
variable {K : Nat → Prop} {w : World} {m : Nat} {S : MS} {ow : Nat → Int} {v v' : Vo}
set_option maxHeartbeats 8000000 in
theorem texts_any (h : Mem Tryz.prog K w m S ow) (G : Good S) (W : Wf S) (vd : Value) (D : List (List UInt8)) (hD : TxS w vd D) (hDl : D.length ≤ 1000000) :
    Calls Tryz.prog 76 #[bp m, vd] w fun e w' => ((FitD S D ∧ ∃ L, e = .returned (.tuple #[.map (some w.heap.size), .bool true]) ∧ TM w' w.heap.size w.heap.size S.k (tellA S.k (S.vols.zip D)) L) ∨ (¬ FitD S D ∧ e = .returned (.tuple #[.map none, .bool false]))) ∧ Same w w' := by
  refine opq fun R HR => ?_
  have HM := Lib.hid h
  have HG := Lib.hid G
  have hl := vols_len G W
  obtain ⟨a1, c1, rfl, kD⟩ := hD.ex
  have KD := Lib.hid kD
  obtain ⟨nd, hnd⟩ : ∃ z, D.length = z := ⟨_, rfl⟩
  rw [hnd] at KD hDl ⊢
  have ND := Lib.hid hnd
  obtain ⟨mb, hmb⟩ : ∃ z, w.heap.size = z := ⟨_, rfl⟩
  have HMB := Lib.hid hmb
  obtain ⟨W1, hW1⟩ : ∃ z, w.alloc (.map #[] 0) = z := ⟨_, rfl⟩
  have J1 := Lib.hid (show Same w W1 by rw [← hW1]; exact (Mod.refl _ _).alloc _)
  have s1 : W1.heap.size = mb + 1 := by rw [← hW1, ← hmb]; simp
  have T1 := Lib.hid (show TM W1 mb mb S.k [] [] by rw [← hW1, ← hmb]; exact TM.start)
  have HSo := Lib.hid (sorted_any (h.same J1.out) W hl (fun v hv => I64.of (by have := G.ids v hv; omega)))
  obtain ⟨n, hn⟩ : ∃ n, S.vols.length = n := ⟨_, rfl⟩
  rw [hn] at hl HSo
  rw [hmb] at HR
  have HN := Lib.hid hn
  obtain ⟨k, hkk⟩ : ∃ k, S.k = k := ⟨_, rfl⟩
  have HKK := Lib.hid hkk
  have hk1 := G.k1
  have hk8 := G.k8
  rw [hkk] at hk1 hk8 T1
  have hmk := make167 w
  rw [hmb, hW1] at hmk
  clear h W hn G hkk hD kD hnd hW1 hmb
  go_enter Tryz.func76, Tryz.ntmps76
  go_wp2_with fail
  refine HSo.out.mono ?_
  rintro e w2 ⟨vi, rfl, hrow, M⟩
  have J2 := Lib.hid (J1.out.same M)
  have T2 := Lib.hid (T1.out.same M)
  have s2 : mb + 1 ≤ w2.heap.size := by have := M.size; omega
  have RI := Lib.hid hrow
  obtain ⟨ai, ci, rfl⟩ := owns_slice hrow
  clear M hrow HSo J1 T1 hmk
  by_cases hnn : nd = n
  case neg =>
    have hq : ((nd : Int) != (n : Int)) = true := by simp; omega
    go_wp2
    refine HR.out _ _ ⟨.inr ⟨fun f => hnn ?_, rfl⟩, J2.out⟩
    rw [← ND.out, ← HN.out]
    exact f.1
  subst hnn
  have hq : ((nd : Int) != (nd : Int)) = false := by simp
  go_wp2_with fail
  obtain ⟨Z, hZ⟩ : ∃ z, S.vols.zip D = z := ⟨_, rfl⟩
  have HZ := Lib.hid hZ
  have hZl : Z.length = nd := by rw [← hZ, List.length_zip, HN.out, ND.out]; simp
  have HZL := Lib.hid hZl
  have HF1 := Lib.hid (show (∀ x ∈ Z, x.2.length = x.1.size.toNat * k * 16) → FitP (tellA k Z) → FitD S D from fun a b => ⟨by rw [HN.out, ND.out], by rw [hZ, HKK.out]; exact a, by rw [hZ, HKK.out]; exact b⟩)
  have HF2 := Lib.hid (show FitD S D → (∀ x ∈ Z, x.2.length = x.1.size.toNat * k * 16) ∧ FitP (tellA k Z) from fun f => by
    have := f.2
    rw [hZ, HKK.out] at this
    exact this)
  have HLv := Lib.hid (show ∀ y ∈ tellA k Z, ∀ c, y.1 = some c → ∃ v ∈ S.vols, ∃ x ∈ v.pl, x.2 = c from fun y hy c hc => by rw [← hZ] at hy; exact tellA_live hy hc)
  have HR2 := Lib.hid (show ∀ (e : Ending) (w' : World), ((FitD S D ∧ ∃ L, e = .returned (.tuple #[.map (some mb), .bool true]) ∧ TM w' mb mb k (tellA k Z) L) ∨ (¬ FitD S D ∧ e = .returned (.tuple #[.map none, .bool false]))) ∧ Same w w' → R e w' from fun e w' => by
    have := HR.out e w'
    rw [hZ, HKK.out] at this
    exact this)
  clear HR hZl
  clear hZ
  go_loopw [25] (fun vi wr => ∃ (j : Nat) (L : List (Option Nat × Value)), j ≤ nd ∧ vi = .int .i64 (j : Int) ∧ TM wr mb mb k (tellA k (Z.take j)) L ∧ (∀ x ∈ Z.take j, x.2.length = x.1.size.toNat * k * 16) ∧ Mod (fun i => i = mb) w2 wr) (fun vi _ => nd - (intOf vi).toNat)
  case atStart => exact ⟨0, [], by omega, rfl, T2.out, by simp, Mod.refl _ _⟩
  case round =>
    obtain ⟨j, L, hj, rfl, hT, hLn, M⟩ := hrel
    have TX := Lib.hid hT
    have LN := Lib.hid hLn
    have MX := Lib.hid M
    have J := Lib.hid (show Same w wr from J2.out.then_ M (fun i hi e => by have := HMB.out; omega))
    have hwr : w2.heap.size ≤ wr.heap.size := M.size
    clear M hT hLn
    by_cases hlt : j < nd
    · obtain ⟨g, cap, hvv, hgb, hgc, hrw⟩ := RowV.of_owns RI.out (by omega)
      cases hvv
      obtain ⟨gd, hgd, hrd⟩ := KD.out (by omega)
      subst hgd
      obtain ⟨⟨x, t⟩, hx⟩ : ∃ x, Z[j]? = some x := ⟨_, List.getElem?_eq_getElem (by rw [HZL.out]; exact hlt)⟩
      have hxs : S.vols[j]? = some x ∧ D[j]? = some t := by
        have := hx
        rw [← HZ.out, List.getElem?_zip_eq_some] at this
        exact this
      have e0 := (MX.out.cell hrw.lt (fun q => by omega) j).trans (hrw.cell j (by omega))
      rw [show ((S.vols.map fun v => bp v.b)).getD j undef = bp x.b by
        rw [List.getD_eq_getElem?_getD, List.getElem?_map, hxs.1]; rfl] at e0
      have q1 := ((hrd.mod J.out (fun q => q)).cell j hlt).trans (show _ = some (Value.string ⟨t.toArray⟩) by unfold txF; rw [List.getD_eq_getElem?_getD, hxs.2]; rfl)
      have hxm := List.mem_of_getElem? hxs.1
      have hsz := HG.out.sizes x hxm
      obtain ⟨z, hzz⟩ : ∃ z : Nat, x.size = (z : Int) := ⟨x.size.toNat, by omega⟩
      have hzk : z * k ≤ 64 * 8 := Nat.mul_le_mul (by omega) hk8
      have hzz2 : x.size.toNat = z := by omega
      have hz64 : z ≤ 64 := by omega
      obtain ⟨N, hN⟩ : ∃ N, z * k = N := ⟨_, rfl⟩
      have hN512 : N ≤ 512 := by rw [← hN]; exact hzk
      have hwm : IntKind.i64.wrap ((z : Int) * (k : Int)) = (N : Int) := by
        rw [show (z : Int) * (k : Int) = ((z * k : Nat) : Int) by simp, hN]; exact IntWalk.i64_in _ (by omega)
      have hwm2 : IntKind.i64.wrap ((N : Int) * 16) = ((N * 16 : Nat) : Int) := by rw [IntWalk.i64_in _ (by omega)]; simp
      obtain ⟨vm, hbm, -, hv⟩ := (HM.out.same J.out).parts
      have hb := (hv x hxm).1
      have HPm := Lib.hid (hv x hxm).2
      have b1 := hb.at_ (i := 1) (.int .i64 x.size) rfl
      have b5 := hb.at_ (i := 5) (.map (some x.pb)) rfl
      have k0 := hbm.at_ (i := 0) (.int .i64 (S.k : Int)) rfl
      rw [hzz] at b1
      rw [HKK.out] at k0
      have HX := Lib.hid hx
      have HXM := Lib.hid hxm
      obtain ⟨xb, hxb⟩ : ∃ z, x.b = z := ⟨_, rfl⟩
      have HXB := Lib.hid hxb
      have HBX := Lib.hid hb
      have HBM := Lib.hid hbm
      rw [hxb] at b1 b5 e0 HBX
      have hi0 : (0 : Int) ≤ (j : Int) := by omega
      have hi1 : (j : Int) < (nd : Int) := by omega
      have HNN := Lib.hid hN
      have HZ2 := Lib.hid hzz2
      have HZZ := Lib.hid hzz
      clear hrw hv hb hbm hzz hzk hsz hxb hx hxs hrd hxm hN hzz2
      by_cases htl : t.length = N * 16
      case neg =>
        have hne : ((t.length : Int) != ((N * 16 : Nat) : Int)) = true := by simp; omega
        go_wp2_with fail
        go_big_quiet (fail)
        go_wp2
        refine HR2.out _ _ ⟨.inr ⟨fun f => htl ?_, rfl⟩, J.out.drewN _⟩
        have := (HF2.out f).1 _ (List.mem_of_getElem? HX.out)
        rw [HZ2.out, HNN.out] at this
        exact this
      have hne : ((t.length : Int) != ((N * 16 : Nat) : Int)) = false := by simp; omega
      have HTL := Lib.hid htl
      clear htl
      go_wp2_with fail
      go_big_quiet (fail)
      go_wp2_with fail
      rw [show ((t.length : Int) != (N : Int) * 16) = false by rw [HTL.out]; simp]
      obtain ⟨W4, hW4⟩ : ∃ z, wr.drewN nq = z := ⟨_, rfl⟩
      have MX4 := Lib.hid (show Mod (fun i => i = mb) w2 W4 by rw [← hW4]; exact MX.out.drewN _)
      have TX4 := Lib.hid (show TM W4 mb mb k (tellA k (Z.take j) ++ tellV k x t 0) L by rw [← hW4]; have := TX.out.same ((Mod.refl (fun _ => False) _).drewN nq); simpa [tellV] using this)
      rw [hW4]
      clear hW4 q1 e0 b1 b5 k0 TX MX J HPm HBX HBM
      go_loopw [52] (fun vi ws => ∃ (p : Nat) (L : List (Option Nat × Value)), p ≤ z ∧ vi = .int .i64 (p : Int) ∧ TM ws mb mb k (tellA k (Z.take j) ++ tellV k x t p) L ∧ Mod (fun i => i = mb) w2 ws) (fun vi _ => z - (intOf vi).toNat)
      case atStart => exact ⟨0, L, by omega, rfl, TX4.out, MX4.out⟩
      case round =>
        clear TX4 MX4
        obtain ⟨p, L, hp, rfl, hT, M⟩ := hrel
        have TX := Lib.hid hT
        have MX := Lib.hid M
        have J := Lib.hid (show Same w wr from J2.out.then_ M (fun i hi e => by have := HMB.out; omega))
        have hwr : w2.heap.size ≤ wr.heap.size := M.size
        clear M hT
        by_cases hli : p < z
        · obtain ⟨gd2, hgd, hrd⟩ := KD.out (by omega)
          cases hgd
          have hxs : S.vols[j]? = some x ∧ D[j]? = some t := by
            have := HX.out
            rw [← HZ.out, List.getElem?_zip_eq_some] at this
            exact this
          have q1 := ((hrd.mod J.out (fun q => q)).cell j hlt).trans (show _ = some (Value.string ⟨t.toArray⟩) by unfold txF; rw [List.getD_eq_getElem?_getD, hxs.2]; rfl)
          obtain ⟨vm, hbm, -, hv⟩ := (HM.out.same J.out).parts
          have hb := (hv x HXM.out).1
          have HPm := Lib.hid (hv x HXM.out).2
          have b5 := hb.at_ (i := 5) (.map (some x.pb)) rfl
          rw [HXB.out] at b5
          rw [HKK.out] at hbm
          have hxbl := hb.lt
          rw [HXB.out] at hxbl
          have hgdl := hrd.lt
          have hlk := look106 HPm.out (p := (p : Int)) (I64.of (by omega))
          have hpk : (p + 1) * k * 16 ≤ t.length := by
            rw [HTL.out, ← HNN.out]
            exact Nat.mul_le_mul_right _ (Nat.mul_le_mul_right _ (by omega))
          have ht1 : t.length ≤ 1000000 := by rw [HTL.out]; omega
          have HTo := Lib.hid (show ∀ W, Same wr W → Calls Tryz.prog 100 #[bp m, .string ⟨t.toArray⟩, .int .i64 (p : Int)] W fun e w' => ∃ g cap, e = .returned (.slice (some ⟨g, 0, none⟩) k cap) ∧ RowV w' g k (txF (toldL k t p)) ∧ W.heap.size ≤ g ∧ Same W w' from
            fun W M => told_any W m vm k p t (hbm.mod M (fun q => q)) hk1 hk8 (by omega) hpk ht1)
          obtain ⟨q, hqq⟩ : ∃ q, getL (p : Int) x.pl = q := ⟨_, rfl⟩
          have HQ := Lib.hid hqq
          obtain ⟨vq, hvq⟩ : ∃ z, ptrO q = z := ⟨_, rfl⟩
          have HVQ := Lib.hid hvq
          rw [hqq, hvq] at hlk
          have HKc := Lib.hid (show ∀ W, Same wr W → (W.cell? ⟨gd, j, none⟩ = some (.string ⟨t.toArray⟩) ∧ W.cell? ⟨xb, 5, none⟩ = some (.map (some x.pb)) ∧ (Instr.lookup 106 (.map (some x.pb)) (.int .i64 (p : Int)) false).run Tryz.prog W = .ok vq W) from fun W M =>
            ⟨(M.cell (Nat.lt_of_lt_of_le hgdl J.out.size) (fun q => q) j).trans q1, (M.cell hxbl (fun q => q) 5).trans b5, by
              have := look106 (HPm.out.mod M (fun q => q)) (p := (p : Int)) (I64.of (by omega))
              rw [HQ.out, HVQ.out] at this
              exact this⟩)
          have hSc := HKc.out wr (Mod.refl _ _)
          have hi0 : (0 : Int) ≤ (j : Int) := by omega
          have hi1 : (j : Int) < (nd : Int) := by omega
          clear hrd hxs hbm hv hb hqq hvq q1 b5 hlk
          go_wp2_with fail
          go_region_held3 (fun W => W.cell? ⟨gd, j, none⟩ = some (.string ⟨t.toArray⟩) ∧ W.cell? ⟨xb, 5, none⟩ = some (.map (some x.pb)) ∧ (Instr.lookup 106 (.map (some x.pb)) (.int .i64 (p : Int)) false).run Tryz.prog W = .ok vq W) (first | exact hSc | assumption | exact HKc.out _ ((Mod.refl _ _).drew) | exact HKc.out _ JA.out) ((
              first
              | (go_at_call 100; refine (HTo.out _ ((Mod.refl _ _).drew)).mono ?_; rintro e w5 ⟨g5, c5, rfl, hrow5, hge5, MA⟩;
                 have JA := Lib.hid (show Same wr w5 from ((Mod.refl _ wr).drew).same MA);
                 have HR5 := Lib.hid hrow5;
                 have HG5 := Lib.hid (show wr.heap.size ≤ g5 from hge5);
                 clear MA hrow5 hge5)))
          all_goals
            have TX5 := Lib.hid (TX.out.same JA.out)
            have MX5 := Lib.hid (MX.out.same JA.out)
            have J5 := Lib.hid (J.out.same JA.out)
            obtain ⟨T, hT⟩ : ∃ z, toldL k t p = z := ⟨_, rfl⟩
            have HTT := Lib.hid hT
            have hTl : T.length = k := by rw [← hT]; exact toldL_len k t p
            rw [hT] at HR5
            obtain ⟨pre, hpre⟩ : ∃ z, tellA k (Z.take j) ++ tellV k x t p = z := ⟨_, rfl⟩
            have HPs := Lib.hid (show tellA k (Z.take j) ++ tellV k x t (p + 1) = pre ++ [(q, T)] by
              rw [tellV_succ, ← List.append_assoc, hpre, HQ.out, hT])
            rw [hpre] at TX5
            have HSub := Lib.hid (show ∀ y ∈ pre, y ∈ tellA k Z by
              rw [← hpre]
              exact tellV_sub HX.out (by rw [HZ2.out]; omega))
            have HIn := Lib.hid (show (q, T) ∈ tellA k Z by
              have := tellA_mem (k := k) (p := p) HX.out (by rw [HZ2.out]; omega)
              rw [HQ.out, hT] at this
              exact this)
            have HTx := Lib.hid (show ∀ W, Same w5 W → TxS W (.slice (some ⟨g5, 0, none⟩) k c5) T from fun W M => ⟨⟨_, c5, by rw [hTl], fun _ => ⟨g5, rfl, by rw [hTl]; exact HR5.out.mod M (fun q => q)⟩⟩⟩)
            have HFk := Lib.hid (show ∀ W, Same w5 W → ∃ F : Nat → Array Value, (∀ x, F x ≠ #[] → Blk W x (F x)) ∧ (∀ c, q = some c → F c ≠ #[]) ∧ (∀ y ∈ pre, ∀ c, y.1 = some c → F c ≠ #[]) from fun W M => by
              obtain ⟨F, f1, f2⟩ := (HM.out.same (J5.out.same M)).blks
              refine ⟨F, f1, fun c hc => ?_, fun y hy c hc => ?_⟩
              · exact f2 x HXM.out _ (getL_mem (HQ.out.trans hc))
              · obtain ⟨v, hv, e, he, rfl⟩ := HLv.out y (HSub.out y hy) c hc
                exact f2 v hv e he)
            have hpk : pk q = vq := by rw [← HVQ.out]; cases q <;> rfl
            have HFr := Lib.hid (show ∀ x ∈ L, ∀ c', x.2 ≠ .slice (some ⟨g5, 0, none⟩) k c' from fun x hx c' e => by
              obtain ⟨s, g', cap', _, e2, _, hr, _⟩ := TX.out.row x hx
              rw [e2] at e
              cases e
              have := hr.lt
              have := HG5.out
              omega)
            have HPut := Lib.hid (show ∀ W, Same w5 W → FitP (pre ++ [(q, T)]) → ∃ w' L', (Instr.mapUpdate 167 (.map (some mb)) vq (.slice (some ⟨g5, 0, none⟩) k c5)).run Tryz.prog W = .ok () w' ∧ TM w' mb mb k (pre ++ [(q, T)]) L' ∧ Mod (fun i => i = mb) W w' from fun W M hf => by
              obtain ⟨F, f1, f2, f3⟩ := HFk.out W M
              rw [← hpk]
              exact (TX5.out.same M).put F f1 f2 f3 (HR5.out.mod M (fun q => q)) hTl (by have := HG5.out; omega) (by have := HG5.out; omega) hf HFr.out)
            have hLK : (∃ s g cap, (q, s) ∈ pre ∧ s.length = k ∧ RowV w5 g k (txF s) ∧ (Instr.lookup 167 (.map (some mb)) vq true).run Tryz.prog w5 = .ok (.tuple #[.slice (some ⟨g, 0, none⟩) k cap, .bool true]) w5) ∨
                ((∀ y ∈ pre, y.1 ≠ q) ∧ (Instr.lookup 167 (.map (some mb)) vq true).run Tryz.prog w5 = .ok (.tuple #[.slice none 0 0, .bool false]) w5) := by
              obtain ⟨F, f1, f2, f3⟩ := HFk.out w5 (Mod.refl _ _)
              rw [← hpk]
              exact TX5.out.look F f1 f2 f3
            have HK18 : k ≤ 1000000 := by omega
            have HTL2 := Lib.hid hTl
            clear hT hpre hpk hTl TX HR5 HFk HFr
            cases q with
            | none =>
              obtain rfl : Value.pointer none = vq := HVQ.out
              rcases hLK with ⟨s0, g0, cap0, -, -, -, hlk⟩ | ⟨-, hlk⟩
              all_goals
                go_wp2_with fail
                refine (isZero_any _ _ T (HTx.out _ (Mod.refl _ _)) (by rw [HTL2.out]; exact HK18)).mono ?_
                rintro e w6 ⟨rfl, hM⟩
                have J6 := Lib.hid (J5.out.same hM)
                have MX6 := Lib.hid (MX5.out.same hM)
                have M56 := Lib.hid hM
                clear hM
                cases hz : T.all (fun x => x == zero16) with
                | false =>
                  go_wp2
                  refine HR2.out _ _ ⟨.inr ⟨fun f => ?_, rfl⟩, J6.out⟩
                  have := (HF2.out f).2.zero _ HIn.out
                  rw [hz] at this
                  cases this
                | true =>
                  have HZ8 := Lib.hid hz
                  clear hz
                  obtain ⟨w7, L7, hrun7, hT7, M7⟩ := HPut.out w6 M56.out (TX5.out.fit.add (fun _ => HZ8.out) (fun c hc => by cases hc))
                  have T7 := Lib.hid hT7
                  have MX7 := Lib.hid (MX6.out.trans M7)
                  rw [← HPs.out] at T7
                  clear hT7 M7
                  go_wp2_with fail
                  go_roundw
                  case rel =>
                    exact ⟨p + 1, L7, by omega, by go_num, T7.out, MX7.out⟩
                  case measure => simp [intOf]; omega
            | some d =>
              obtain rfl : Value.pointer (some ⟨d, 0, none⟩) = vq := HVQ.out
              rcases hLK with ⟨s0, g0, cap0, hin, hsl, hrow0, hlk⟩ | ⟨hnot, hlk⟩
              · have HIN := Lib.hid hin
                have HSL := Lib.hid hsl
                have HR0 := Lib.hid hrow0
                clear hin hsl hrow0
                go_wp2_with fail
                refine (eqTx_any _ _ _ s0 T ⟨⟨_, cap0, by rw [HSL.out], fun _ => ⟨g0, rfl, by rw [HSL.out]; exact HR0.out⟩⟩⟩ (HTx.out _ (Mod.refl _ _)) (by rw [HSL.out]; exact HK18) (by rw [HTL2.out]; exact HK18)).mono ?_
                rintro e w6 ⟨rfl, hM⟩
                have J6 := Lib.hid (J5.out.same hM)
                have MX6 := Lib.hid (MX5.out.same hM)
                have M56 := Lib.hid hM
                clear hM
                by_cases hst : s0 = T
                · have hd : decide (s0 = T) = true := decide_eq_true hst
                  rw [hd]
                  have HST := Lib.hid hst
                  clear hst
                  obtain ⟨w7, L7, hrun7, hT7, M7⟩ := HPut.out w6 M56.out (TX5.out.fit.add (fun e => by cases e) (fun c hc s' hs' => by cases hc; rw [← HST.out]; exact TX5.out.fit.one _ _ _ hs' HIN.out))
                  have T7 := Lib.hid hT7
                  have MX7 := Lib.hid (MX6.out.trans M7)
                  rw [← HPs.out] at T7
                  clear hT7 M7
                  go_wp2_with fail
                  go_roundw
                  case rel =>
                    exact ⟨p + 1, L7, by omega, by go_num, T7.out, MX7.out⟩
                  case measure => simp [intOf]; omega
                · have hd : decide (s0 = T) = false := decide_eq_false hst
                  rw [hd]
                  go_wp2
                  refine HR2.out _ _ ⟨.inr ⟨fun f => hst ?_, rfl⟩, J6.out⟩
                  exact (HF2.out f).2.one _ _ _ (HSub.out _ HIN.out) HIn.out
              · have HNOT := Lib.hid hnot
                clear hnot
                obtain ⟨w7, L7, hrun7, hT7, M7⟩ := HPut.out w5 (Mod.refl _ _) (TX5.out.fit.add (fun e => by cases e) (fun c hc s' hs' => absurd hc.symm (HNOT.out _ hs')))
                have T7 := Lib.hid hT7
                have MX7 := Lib.hid (MX5.out.trans M7)
                rw [← HPs.out] at T7
                clear hT7 M7
                go_wp2_with fail
                go_roundw
                case rel =>
                  exact ⟨p + 1, L7, by omega, by go_num, T7.out, MX7.out⟩
                case measure => simp [intOf]; omega
        · obtain rfl : p = z := by omega
          have hpre : tellA k (Z.take (j + 1)) = tellA k (Z.take j) ++ tellV k x t p := by
            rw [tellA_take HX.out, HZ2.out]
          rw [← hpre] at TX
          have hj1 : IntKind.i64.wrap ((j : Int) + 1) = ((j + 1 : Nat) : Int) := by rw [IntWalk.i64_in _ (by omega)]; rfl
          go_wp2_with fail
          refine ⟨⟨j + 1, L, by omega, by go_num, TX.out, fun y hy => ?_, MX.out⟩, by simp [intOf]; omega⟩
          obtain ⟨h1, h2⟩ := List.getElem?_eq_some_iff.1 HX.out
          rw [List.take_succ_eq_append_getElem h1, h2] at hy
          rcases List.mem_append.1 hy with hy | hy
          · exact LN.out y hy
          · rw [List.mem_singleton.1 hy, HZ2.out]
            show t.length = _
            rw [HTL.out, HNN.out]
    · obtain rfl : nd = j := by omega
      have hZt : Z.take nd = Z := List.take_of_length_le (by rw [HZL.out]; exact Nat.le_refl _)
      rw [hZt] at TX LN
      go_wp2
      exact HR2.out _ _ ⟨.inl ⟨HF1.out LN.out TX.out.fit, L, rfl, TX.out⟩, J.out⟩
end
end Go.Proofs.YtlcepoagpocadaaGreatDoor
