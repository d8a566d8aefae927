import Derived.Test.YtjkndfenniongaaGreatDoorAwO
import Derived.Test.YtjkndfenniongaaGreatDoorAtR
import Derived.Deep.DeepCutAuto
set_option linter.unusedSimpArgs false
set_option linter.unusedVariables false
/- What a look's pages may be: their kinds. -/
namespace Go.Proofs.YtjkndfenniongaaGreatDoor
open Go
theorem fillAll_k {S : List (List UInt8)} {L : List Pd} : ∀ (i : Nat) (x : Pd), (fillAll S L)[i]? = some x → ∃ y : Pd, L[i]? = some y ∧ x.k = y.k ∧ x.vs = y.vs := by
  intro i x hx
  unfold fillAll at hx
  rw [List.getElem?_mapIdx] at hx
  cases hy : L[i]? with
  | none => rw [hy] at hx; cases hx
  | some y =>
    rw [hy] at hx
    cases hx
    refine ⟨y, rfl, ?_⟩
    show (fillP S i y).k = y.k ∧ (fillP S i y).vs = y.vs
    unfold fillP
    split
    · exact ⟨rfl, rfl⟩
    · split <;> exact ⟨rfl, rfl⟩
theorem lookW_kinds {S : List (List UInt8)} {L : List Pd} (h : lookW S = some L) : ∀ x ∈ L, x.k = 72 ∨ x.k = 46 ∨ x.k = 73 ∨ x.k = 77 ∨ x.k = 83 := by
  unfold lookW at h
  cases ho : openS S with
  | none => rw [ho] at h; cases h
  | some p =>
    obtain ⟨hh, i⟩ := p
    rw [ho] at h
    dsimp only at h
    cases hw : walkW S hh.root with
    | none => rw [hw] at h; cases h
    | some st =>
      rw [hw] at h
      dsimp only at h
      cases hm : mapsAll S hh.root (blankD (min (S.length / 16) 512)) with
      | none => rw [hm] at h; cases h
      | some L2 =>
        rw [hm] at h
        cases h
        have hk2 : KOk2 S L2 := by
          unfold mapsAll at hm
          cases hv : treeVols S hh.root with
          | none => rw [hv] at hm; cases hm
          | some V => rw [hv] at hm; exact mapsW_kok2 V _ L2 hm (blank_kok2 S _)
        have hk := setI_kok2 st.1 L2 (walk_ok hw) hk2
        intro x hx
        obtain ⟨i, hi⟩ := List.getElem?_of_mem hx
        obtain ⟨y, hy, e, -⟩ := fillAll_k i x hi
        rcases hk i y hy with q | q | q <;> omega
end Go.Proofs.YtjkndfenniongaaGreatDoor
set_option maxRecDepth 100000
/- The law AtlasExact: the walk. -/
namespace Go.Proofs.YtjkndfenniongaaGreatDoor
open Go Go.RowKit
theorem lookW_len {S : List (List UInt8)} {L : List Pd} (h : lookW S = some L) : L.length ≤ 512 := by
  unfold lookW at h
  cases ho : openS S with
  | none => rw [ho] at h; cases h
  | some p =>
    obtain ⟨hh, i⟩ := p
    rw [ho] at h
    dsimp only at h
    cases hw : walkW S hh.root with
    | none => rw [hw] at h; cases h
    | some st =>
      rw [hw] at h
      dsimp only at h
      cases hm : mapsAll S hh.root (blankD (min (S.length / 16) 512)) with
      | none => rw [hm] at h; cases h
      | some L2 =>
        rw [hm] at h
        cases h
        have hk := mapsAll_kok hm (blank_kok S _)
        have h2 := setI_kok st.1 L2 (walk_ok hw) hk.1
        have h3 := hk.2
        rw [blankD_len] at h3
        unfold fillAll
        rw [List.length_mapIdx, h2.2, h3]
        omega
def slP (v : Value) (x : Pd) : Pg := match v with
  | .slice a n c => ⟨x.k, x.l, x.p, a, n, c⟩
  | _ => ⟨x.k, x.l, x.p, none, 0, 0⟩
theorem slP_k (v : Value) (x : Pd) : (slP v x).k = x.k := by unfold slP; split <;> rfl
theorem Pgm.pgs {B : Nat} {F : Nat → Prop} {w : World} {g : Nat} {V : Nat → Value} {L : List Pd} (h : Pgm B F w g V L) : ∃ L' : List Pg, L'.map Pg.k = L.map Pd.k ∧ Pgs w (some ⟨g, 0, none⟩) L' := by
  refine ⟨L.mapIdx fun i x => slP (V i) x, ?_, fun _ => ⟨g, 0, rfl, h.lt, ?_⟩⟩
  · apply List.ext_getElem?
    intro i
    rw [List.getElem?_map, List.getElem?_mapIdx, List.getElem?_map]
    cases L[i]? with
    | none => rfl
    | some x => simp [slP_k]
  · intro i j y u hy hu
    rw [List.getElem?_mapIdx] at hy
    obtain ⟨x, hx, rfl⟩ := Option.map_eq_some_iff.1 hy
    obtain ⟨a, c, hv⟩ := owns_slice (h.own i x hx)
    rw [hv] at hu
    rw [Nat.zero_add]
    match j, hu with
    | 0, hu => cases hu; exact h.c0 i x hx
    | 1, hu => cases hu; exact h.c1 i x hx
    | 2, hu => cases hu; exact h.c2 i x hx
    | 3, hu => cases hu; rw [h.c3 i x hx, hv]; rfl
theorem kd_of {k : Int} (h : k = 72 ∨ k = 46 ∨ k = 73 ∨ k = 77 ∨ k = 83) : UInt8.ofNat k.toNat = kdB k := by
  rcases h with rfl | rfl | rfl | rfl | rfl <;> rfl
theorem conv_rune {k : Int} (h : k = 72 ∨ k = 46 ∨ k = 73 ∨ k = 77 ∨ k = 83) (w : World) : (convert 21 9 (.int .i32 k)).run Tryz.prog w = .ok (.string ⟨#[kdB k]⟩) w := by
  rcases h with rfl | rfl | rfl | rfl | rfl <;> kernel_rfl
end Go.Proofs.YtjkndfenniongaaGreatDoor
set_option maxRecDepth 100000
/- The law AtlasExact: the walk. -/
namespace Go.Proofs.YtjkndfenniongaaGreatDoor
open Go Go.RowKit
/-- A row that is owned is no longer than any machine's. -/
theorem own_len {w : World} {base size n : Nat} {e : TypeId} {v : Value} {xs : List Value} (h : w.ownsRow base e size v n xs) : n ≤ 9223372036854775807 := by
  by_cases hn : 0 < n
  · obtain ⟨hl, h0 | ⟨g, cap, cur, hv, hb, hh, hc, hm, hcs, ht⟩⟩ := h
    · omega
    · unfold maxLen at hm
      omega
  · omega
set_option maxHeartbeats 16000000 in
theorem atlasExact_main (l : List UInt8) (row : Int) (w : World) :
    Calls Tryz.prog 3 #[strV l, .int .i64 row] w fun e w' => e = .returned (.bool true) ∧ Same w w' := by
  refine opq fun R HR => ?_
  have hls : (⟨l.toArray⟩ : ByteArray).size = l.length := bytes_size l
  obtain ⟨ll, hll⟩ : ∃ z, l.length = z := ⟨_, rfl⟩
  have HLL := Lib.hid hll
  rw [hll] at hls
  by_cases hb : ll ≤ 32768
  · have d1 : ¬ (ll : Int) > 32768 := by omega
    have d2 : decide ((ll : Int) > 32768) = false := decide_eq_false d1
    have d3 : decide ((32768 : Int) < (ll : Int)) = false := decide_eq_false d1
    have d4 : decide (32768 < ll) = false := decide_eq_false (by omega)
    obtain ⟨k, hk⟩ : ∃ k : Nat, min (max row 1) 512 = (k : Int) := ⟨(min (max row 1) 512).toNat, by omega⟩
    have hk1 : 1 ≤ k ∧ k ≤ 512 := by omega
    have hk0 : ¬ (k : Int) = 0 := by omega
    have HOf := Lib.hid (of_any7 l (by omega))
    have HRf := Lib.hid (rlook33_any l (by omega))
    have HS := Lib.hid (secs_16 l)
    unfold strV at HOf HRf
    unfold RLook at HRf
    clear hll
    unfold strV
    go_enter Tryz.func3, Tryz.ntmps3
    go_wp2_with fail
    refine (awake_any w).mono ?_
    rintro e w1 ⟨rfl, M⟩
    have K1 := Lib.hid M
    clear M
    go_wp2_with fail
    refine (HOf.out w1).mono ?_
    rintro e w2 ⟨⟨d, m, lb, rfl, hd⟩, M⟩
    have D2 := Lib.hid hd
    have K2 := Lib.hid (K1.out.same M)
    clear hd M HOf K1
    have HLk := Lib.hid (look_any D2.out HS.out)
    unfold LookP at HLk
    go_wp2_with fail
    refine HLk.out.mono ?_
    rintro e w3 ⟨hlk, M⟩
    have HL3 := Lib.hid hlk
    have K3 := Lib.hid (K2.out.same M)
    have hw23 : w2.heap.size ≤ w3.heap.size := M.size
    clear hlk M HLk K2 D2 HS
    cases hlw : lookW (secs l) with
    | none =>
      have h3 := HL3.out
      rw [hlw] at h3 HRf
      dsimp only at h3 HRf
      subst h3
      clear hlw
      go_wp2_with fail
      refine (HRf.out w3).mono ?_
      rintro e w4 ⟨rfl, M⟩
      have K4 := Lib.hid (K3.out.same M)
      clear M HRf
      go_wp2_with fail
      go_wp2
      exact HR.out _ _ ⟨rfl, K4.out⟩
    | some L =>
      have h3 := HL3.out
      rw [hlw] at h3 HRf
      dsimp only at h3 HRf
      obtain ⟨g, c, V, rfl, hp⟩ := h3
      have P3 := Lib.hid hp
      have HLn := Lib.hid (lookW_len hlw)
      have HKd := Lib.hid (lookW_kinds hlw)
      obtain ⟨n, hn⟩ : ∃ n, L.length = n := ⟨_, rfl⟩
      have HN := Lib.hid hn
      have hn5 : n ≤ 512 := by rw [← hn]; exact HLn.out
      rw [hn] at HRf ⊢
      clear hp hlw hn HL3
      go_wp2_with fail
      refine (HRf.out w3).mono ?_
      rintro e w4 ⟨⟨g2, c2, V2, rfl, hp2⟩, M⟩
      have P4 := Lib.hid (P3.out.same M)
      have Q4 := Lib.hid hp2
      have K4 := Lib.hid (K3.out.same M)
      have hg4 : g < w4.heap.size := P4.out.lt
      have hg24 : g2 < w4.heap.size := Q4.out.lt
      clear M HRf P3 K3 hp2
      have HSx := Lib.hid (txP_succ k (L.map Pd.k))
      rw [List.length_map, HN.out] at HSx
      go_wp2_with fail
      go_loopw [11, 9] (fun vi vs wr => ∃ i : Nat, i ≤ n ∧ vi = .int .i64 (i : Int) ∧ vs = strV (txP k (L.map Pd.k) i) ∧ Same w4 wr) (fun vi _ _ => n - (intOf vi).toNat)
      case atStart => exact ⟨0, by omega, rfl, rfl, Mod.refl _ _⟩
      case round =>
        obtain ⟨i, hi, rfl, rfl, M⟩ := hrel
        have J := Lib.hid M
        clear M
        unfold strV
        by_cases hlt : i < n
        · obtain ⟨x, hx⟩ : ∃ x, L[i]? = some x := ⟨_, List.getElem?_eq_getElem (by rw [HN.out]; exact hlt)⟩
          have e0 := (J.out.cell hg4 (fun q => q) _).trans (P4.out.c0 i x hx)
          have e1 := (J.out.cell hg4 (fun q => q) _).trans (P4.out.c1 i x hx)
          have e2 := (J.out.cell hg4 (fun q => q) _).trans (P4.out.c2 i x hx)
          have e3 := (J.out.cell hg4 (fun q => q) _).trans (P4.out.c3 i x hx)
          have f0 := (J.out.cell hg24 (fun q => q) _).trans (Q4.out.c0 i x hx)
          have f1 := (J.out.cell hg24 (fun q => q) _).trans (Q4.out.c1 i x hx)
          have f2 := (J.out.cell hg24 (fun q => q) _).trans (Q4.out.c2 i x hx)
          have f3 := (J.out.cell hg24 (fun q => q) _).trans (Q4.out.c3 i x hx)
          obtain ⟨a1, c1, hv1, hI1⟩ := ins_own (P4.out.own i x hx)
          obtain ⟨a2, c2', hv2, hI2⟩ := ins_own (Q4.out.own i x hx)
          have I1 := Lib.hid hI1
          have I2 := Lib.hid hI2
          rw [hv1] at e3
          rw [hv2] at f3
          have E3 := Lib.hid ((P4.out.c3 i x hx).trans (congrArg some hv1))
          have F3 := Lib.hid ((Q4.out.c3 i x hx).trans (congrArg some hv2))
          have F0 := Lib.hid (Q4.out.c0 i x hx)
          unfold kS at F0
          rw [kd_of (HKd.out x (List.mem_of_getElem? hx))] at F0
          have hkd := HKd.out x (List.mem_of_getElem? hx)
          unfold kS at f0
          rw [kd_of hkd] at f0
          have kc := conv_rune hkd
          have hSi := HSx.out i
          rw [show (L.map Pd.k).getD i 0 = x.k by rw [List.getD_eq_getElem?_getD, List.getElem?_map, hx]; rfl] at hSi
          have HSi := Lib.hid hSi
          unfold nlB at HSi
          have hmb := own_len (P4.out.own i x hx)
          obtain ⟨m1, hm1⟩ : ∃ z, x.vs.length = z := ⟨_, rfl⟩
          have HM1 := Lib.hid hm1
          rw [hm1] at e3 f3 E3 F3 hmb
          have hw1 : IntKind.i64.wrap ((i : Int) + 1) = ((i + 1 : Nat) : Int) := by rw [IntWalk.i64_in _ (by omega)]; rfl
          have hq : ((i + 1 : Nat) : Int).tmod (k : Int) = (((i + 1) % k : Nat) : Int) := by
            rw [Int.tmod_eq_emod_of_nonneg (by omega)]; rfl
          have hqi : IntKind.i64.wrap (((i + 1) % k : Nat) : Int) = (((i + 1) % k : Nat) : Int) := by
            have := Nat.mod_lt (i + 1) (show 0 < k by omega)
            exact IntWalk.i64_in _ (by omega)
          have hlen := txP_len k (L.map Pd.k) i
          clear hx hI1 hI2 hv1 hv2 hSi hm1 HKd
          generalize txP k (L.map Pd.k) i = acc at *
          have hov1 : ¬ 9223372036854775807 < acc.length + 1 := by omega
          have hov2 : ¬ 9223372036854775807 < acc.length + 1 + 1 := by omega
          clear hlen
          obtain ⟨xk, xl, xp, xv⟩ := x
          dsimp only at *
          generalize kdB xk = bk at *
          have ha1 := app1 acc bk
          have ha2 := app1 (acc ++ [bk]) 10
          have hbn : ([bk] != [bk]) = false := by simp
          have hbe : ([bk] == [bk]) = true := by simp
          have hln : (xl != xl) = false := by simp
          have hpn : (xp != xp) = false := by simp
          have hmn : ((m1 : Int) != (m1 : Int)) = false := by simp
          go_wp2_with fail
          go_big_quiet (fail)
          go_wp2_with fail
          obtain ⟨wq, hwq⟩ : ∃ z, wr.drewN nq = z := ⟨_, rfl⟩
          have JQ := Lib.hid (show Same w4 wq by rw [← hwq]; exact J.out.drewN _)
          have g0 := (show wq.cell? ⟨g2, i * 4, none⟩ = some (.string ⟨#[bk]⟩) by rw [← hwq]; exact f0)
          rw [hwq]
          clear hwq e0 e1 e2 e3 f0 f1 f2 f3 J
          have b3 := (JQ.out.cell hg4 (fun q => q) _).trans E3.out
          have c3 := (JQ.out.cell hg24 (fun q => q) _).trans F3.out
          go_loopw [12] (fun vj ws => ∃ j : Nat, j ≤ m1 ∧ vj = .int .i64 (j : Int) ∧ Same wq ws) (fun vj _ => m1 - (intOf vj).toNat)
          case atStart => exact ⟨0, by omega, rfl, Mod.refl _ _⟩
          case round =>
            obtain ⟨j, hj, rfl, M⟩ := hrel
            have JS := Lib.hid (JQ.out.same M)
            have JM := Lib.hid M
            clear M
            have s3 := (JS.out.cell hg4 (fun q => q) _).trans E3.out
            have t3 := (JS.out.cell hg24 (fun q => q) _).trans F3.out
            have t0 := (JS.out.cell hg24 (fun q => q) _).trans F0.out
            by_cases hjl : j < m1
            · obtain ⟨b1, o1, rfl, hb1, hc1⟩ := I1.out (by rw [HM1.out]; omega)
              obtain ⟨b2, o2, rfl, hb2, hc2⟩ := I2.out (by rw [HM1.out]; omega)
              obtain ⟨y, hy⟩ : ∃ y, xv[j]? = some y := ⟨_, List.getElem?_eq_getElem (by rw [HM1.out]; exact hjl)⟩
              have y1 := (JS.out.cell hb1 (fun q => q) _).trans (hc1 j y hy)
              have y2 := (JS.out.cell hb2 (fun q => q) _).trans (hc2 j y hy)
              have hyn : (y != y) = false := by simp
              clear hc1 hc2 hy
              go_wp2_with fail
              try go_big_quiet (fail)
              go_wp2_with fail
              go_roundw
              case rel => exact ⟨j + 1, by omega, by first | rfl | go_num, JM.out.drewN _⟩
              case measure => simp [intOf]; omega
            · obtain rfl : m1 = j := by omega
              clear t3 b3 c3
              by_cases hr : (i + 1) % k = 0
              · rw [if_pos (.inl hr)] at HSi
                have hz0 : ((i + 1 : Nat) : Int) % (k : Int) = 0 := by omega
                have hz : (((i + 1 : Nat) : Int) % (k : Int) == 0) = true := by rw [hz0]; rfl
                have hz' : (((i : Int) + 1) % (k : Int) == 0) = true := hz
                rw [hr] at hq hqi
                clear hr
                go_wp2_with fail
                go_roundw
                case rel => exact ⟨i + 1, by omega, by first | rfl | go_num, by rw [HSi.out]; simp [strV], JS.out⟩
                case measure => simp [intOf]; omega
              · have hz : (((i + 1 : Nat) : Int) % (k : Int) == 0) = false := beq_eq_false_iff_ne.2 (by omega)
                have hz' : (((i : Int) + 1) % (k : Int) == 0) = false := hz
                by_cases hjn : i + 1 = n
                · rw [if_pos (.inr hjn)] at HSi
                  have hjb : ((((i + 1 : Nat)) : Int) == (n : Int)) = true := by simp [hjn]
                  rw [hjn] at hz
                  go_wp2_with fail
                  go_roundw
                  case rel => exact ⟨i + 1, by omega, by first | rfl | (rw [hjn]) | go_num, by rw [HSi.out]; simp [strV], JS.out⟩
                  case measure => simp [intOf]; omega
                · rw [if_neg (fun q => q.elim hr hjn)] at HSi
                  have hjb : ((((i + 1 : Nat)) : Int) == (n : Int)) = false := beq_eq_false_iff_ne.2 (by omega)
                  have hjb' : ((i : Int) + 1 == (n : Int)) = false := hjb
                  go_wp2_with fail
                  go_roundw
                  case rel => exact ⟨i + 1, by omega, by first | rfl | go_num, by rw [HSi.out]; simp [strV], JS.out⟩
                  case measure => simp [intOf]; omega
        · obtain rfl : n = i := by omega
          obtain ⟨L', hLk, hpg⟩ := P4.out.pgs
          have hLn : L'.length = n := by
            have := congrArg List.length hLk
            rw [List.length_map, List.length_map, HN.out] at this
            exact this
          have HT := Lib.hid (text_pg (some ⟨g, 0, none⟩) c L' row k hk (by rw [hLn]; omega) wr (hpg.same J.out))
          rw [hLn, hLk] at HT
          unfold strV at HT
          have hXX : (txP k (L.map Pd.k) n == txP k (L.map Pd.k) n) = true := by simp
          clear hLk hpg hLn HKd HSx
          generalize txP k (L.map Pd.k) n = acc at *
          go_wp2_with fail
          refine HT.out.mono ?_
          rintro e w5 ⟨rfl, M⟩
          have K5 := Lib.hid (K4.out.same (J.out.same M))
          clear M HT J K4
          go_wp2
          exact HR.out _ _ ⟨rfl, K5.out⟩
  · have d1 : (ll : Int) > 32768 := by omega
    have d2 : decide ((ll : Int) > 32768) = true := decide_eq_true d1
    have d3 : decide ((32768 : Int) < (ll : Int)) = true := decide_eq_true d1
    have d4 : decide (32768 < ll) = true := decide_eq_true (by omega)
    unfold strV
    go_enter Tryz.func3, Tryz.ntmps3
    go_wp2_with fail
    refine (awake_any w).mono ?_
    rintro e w1 ⟨rfl, M⟩
    go_wp2
    exact HR.out _ _ ⟨rfl, M⟩
end Go.Proofs.YtjkndfenniongaaGreatDoor
