import Derived.Test.YtlcepoagpocadaaGreatDoorMfF
import Derived.Test.YtlcepoagpocadaaGreatDoorMfD
import Derived.Deep.RegionHeld3
set_option linter.unusedSimpArgs false
set_option linter.unusedVariables false
set_option maxRecDepth 100000
/- A snap of a snap is as one of the volume. -/
namespace Go.Proofs.YtlcepoagpocadaaGreatDoor
open Go Go.RowKit
theorem wordF0 (cs : Array Value) (w : World) : Calls Tryz.prog 231 #[.agg cs] w fun e w' => e = .returned (.string ⟨#[99, 114, 101, 97, 116, 101]⟩) ∧ Same w w' := by
  refine opq fun R HR => ?_
  go_enter Tryz.func231, Tryz.ntmps231
  go_wp2
  exact HR.out _ _ ⟨rfl, (Mod.refl _ _).alloc _⟩
theorem wordF1 (cs : Array Value) (w : World) : Calls Tryz.prog 236 #[.agg cs] w fun e w' => e = .returned (.string ⟨#[100, 101, 108, 101, 116, 101]⟩) ∧ Same w w' := by
  refine opq fun R HR => ?_
  go_enter Tryz.func236, Tryz.ntmps236
  go_wp2
  exact HR.out _ _ ⟨rfl, (Mod.refl _ _).alloc _⟩
theorem wordF2 (cs : Array Value) (w : World) : Calls Tryz.prog 237 #[.agg cs] w fun e w' => e = .returned (.string ⟨#[115, 110, 97, 112]⟩) ∧ Same w w' := by
  refine opq fun R HR => ?_
  go_enter Tryz.func237, Tryz.ntmps237
  go_wp2
  exact HR.out _ _ ⟨rfl, (Mod.refl _ _).alloc _⟩
theorem wordF3 (cs : Array Value) (w : World) : Calls Tryz.prog 241 #[.agg cs] w fun e w' => e = .returned (.string ⟨#[114, 101, 115, 105, 122, 101]⟩) ∧ Same w w' := by
  refine opq fun R HR => ?_
  go_enter Tryz.func241, Tryz.ntmps241
  go_wp2
  exact HR.out _ _ ⟨rfl, (Mod.refl _ _).alloc _⟩
theorem wordF4 (cs : Array Value) (w : World) : Calls Tryz.prog 242 #[.agg cs] w fun e w' => e = .returned (.string ⟨#[112, 105, 110]⟩) ∧ Same w w' := by
  refine opq fun R HR => ?_
  go_enter Tryz.func242, Tryz.ntmps242
  go_wp2
  exact HR.out _ _ ⟨rfl, (Mod.refl _ _).alloc _⟩
theorem wordF5 (cs : Array Value) (w : World) : Calls Tryz.prog 243 #[.agg cs] w fun e w' => e = .returned (.string ⟨#[102, 114, 101, 101]⟩) ∧ Same w w' := by
  refine opq fun R HR => ?_
  go_enter Tryz.func243, Tryz.ntmps243
  go_wp2
  exact HR.out _ _ ⟨rfl, (Mod.refl _ _).alloc _⟩
theorem wordF6 (cs : Array Value) (w : World) : Calls Tryz.prog 238 #[.agg cs] w fun e w' => e = .returned (.string ⟨#[114, 101, 97, 100]⟩) ∧ Same w w' := by
  refine opq fun R HR => ?_
  go_enter Tryz.func238, Tryz.ntmps238
  go_wp2
  exact HR.out _ _ ⟨rfl, (Mod.refl _ _).alloc _⟩
theorem wordF7 (cs : Array Value) (w : World) : Calls Tryz.prog 232 #[.agg cs] w fun e w' => e = .returned (.string ⟨#[119, 114, 105, 116, 101]⟩) ∧ Same w w' := by
  refine opq fun R HR => ?_
  go_enter Tryz.func232, Tryz.ntmps232
  go_wp2
  exact HR.out _ _ ⟨rfl, (Mod.refl _ _).alloc _⟩
theorem wordF8 (cs : Array Value) (w : World) : Calls Tryz.prog 234 #[.agg cs] w fun e w' => e = .returned (.string ⟨#[100, 105, 115, 99, 97, 114, 100]⟩) ∧ Same w w' := by
  refine opq fun R HR => ?_
  go_enter Tryz.func234, Tryz.ntmps234
  go_wp2
  exact HR.out _ _ ⟨rfl, (Mod.refl _ _).alloc _⟩
theorem wordF9 (cs : Array Value) (w : World) : Calls Tryz.prog 233 #[.agg cs] w fun e w' => e = .returned (.string ⟨#[102, 108, 117, 115, 104]⟩) ∧ Same w w' := by
  refine opq fun R HR => ?_
  go_enter Tryz.func233, Tryz.ntmps233
  go_wp2
  exact HR.out _ _ ⟨rfl, (Mod.refl _ _).alloc _⟩
theorem wordF10 (cs : Array Value) (w : World) : Calls Tryz.prog 244 #[.agg cs] w fun e w' => e = .returned (.string ⟨#[116, 105, 99, 107]⟩) ∧ Same w w' := by
  refine opq fun R HR => ?_
  go_enter Tryz.func244, Tryz.ntmps244
  go_wp2
  exact HR.out _ _ ⟨rfl, (Mod.refl _ _).alloc _⟩
theorem wordF11 (cs : Array Value) (w : World) : Calls Tryz.prog 245 #[.agg cs] w fun e w' => e = .returned (.string ⟨#[100, 101, 99, 97, 121]⟩) ∧ Same w w' := by
  refine opq fun R HR => ?_
  go_enter Tryz.func245, Tryz.ntmps245
  go_wp2
  exact HR.out _ _ ⟨rfl, (Mod.refl _ _).alloc _⟩
theorem wordF12 (cs : Array Value) (w : World) : Calls Tryz.prog 240 #[.agg cs] w fun e w' => e = .returned (.string ⟨#[115, 116, 97, 116, 117, 115]⟩) ∧ Same w w' := by
  refine opq fun R HR => ?_
  go_enter Tryz.func240, Tryz.ntmps240
  go_wp2
  exact HR.out _ _ ⟨rfl, (Mod.refl _ _).alloc _⟩
theorem wordF13 (cs : Array Value) (w : World) : Calls Tryz.prog 246 #[.agg cs] w fun e w' => e = .returned (.string ⟨#[102, 117, 115, 101]⟩) ∧ Same w w' := by
  refine opq fun R HR => ?_
  go_enter Tryz.func246, Tryz.ntmps246
  go_wp2
  exact HR.out _ _ ⟨rfl, (Mod.refl _ _).alloc _⟩
theorem wordF14 (cs : Array Value) (w : World) : Calls Tryz.prog 235 #[.agg cs] w fun e w' => e = .returned (.string ⟨#[99, 114, 97, 115, 104]⟩) ∧ Same w w' := by
  refine opq fun R HR => ?_
  go_enter Tryz.func235, Tryz.ntmps235
  go_wp2
  exact HR.out _ _ ⟨rfl, (Mod.refl _ _).alloc _⟩
theorem kOf (z : Int) : ∃ k : Nat, 1 ≤ k ∧ k ≤ 8 ∧ wrap64 (1 + wrap64 ((IntKind.u64.wrap z).tmod 8)) = (k : Int) := by
  have h := utmod z 8 (by decide) (by decide)
  generalize wrap64 ((IntKind.u64.wrap z).tmod 8) = y at h
  refine ⟨(1 + y).toNat, by omega, by omega, ?_⟩
  unfold wrap64; omega
theorem good_emptyK {k : Nat} (h1 : 1 ≤ k) (h8 : k ≤ 8) : Good (emptyS k) := ⟨h1, h8, by simp [emptyS], by simp [emptyS], by simp [emptyS], by simp [emptyS], by simp [emptyS]⟩
theorem one_empty (k : Nat) : OneP (emptyS k) := by unfold OneP; simp [emptyS]
theorem info_get {l : List Vo} {j : Nat} {v : Vo} (h : l[j]? = some v) {i : Nat} (hi : i < 5) : (l.flatMap infoC)[j * 5 + i]? = (infoC v)[i]? := by
  induction l generalizing j with
  | nil => simp at h
  | cons u r ih =>
    rw [List.flatMap_cons]
    cases j with
    | zero =>
      simp at h
      subst h
      rw [List.getElem?_append_left (by simp [infoC]; omega)]; simp
    | succ j =>
      rw [List.getElem?_append_right (by simp [infoC]; omega), show (j + 1) * 5 + i - (infoC u).length = j * 5 + i by simp [infoC]; omega]
      exact ih (by simpa using h)
theorem copy_nil (w : World) : Calls Tryz.prog 29 #[.pointer none] w fun e w' => e = .returned (.pointer none) ∧ Same w w' := by
  refine opq fun R HR => ?_
  go_enter Tryz.func29, Tryz.ntmps29
  go_wp2
  exact HR.out _ _ ⟨rfl, Mod.refl _ _⟩
theorem snaps_five {S3 S4 S5 : MS} {e5 : Int} {d4 d5 : List UInt8} {t4 t5 : Bool} (n15 : findV S3 15 = none) (h4 : DoR S3 2 [1, 14] [] 0 d4 t4 S4) (h5 : DoR S4 2 [1, 15] [] e5 d5 t5 S5) : e5 = 0 := by
  obtain ⟨v1, b4, p4, f1, n14, f14, o4, k4, s4⟩ := (snap_do h4).1 rfl
  exact (snap_do h5).2 ⟨v1, by rw [o4 1 (by decide)]; exact f1⟩ (by decide) (by decide) (by rw [o4 15 (by decide)]; exact n15)
theorem distinct_le : ∀ l : List Nat, (distinct l).length ≤ l.length
  | [] => Nat.le_refl _
  | a :: r => by
    unfold distinct
    have := distinct_le r
    split
    · rw [List.length_cons]; omega
    · rw [List.length_cons, List.length_cons]; omega
theorem live_le : ∀ {l : List Vo}, (∀ v ∈ l, v.pl.length ≤ 64) → (liveL l).length ≤ 64 * l.length
  | [], _ => Nat.le_refl _
  | v :: r, h => by
    unfold liveL
    have h1 := live_le (l := r) (fun u hu => h u (by simp [hu]))
    have h2 := h v (by simp)
    rw [List.length_append, List.length_map, List.length_cons]; omega
theorem count_le {S : MS} (G : Good S) (W : Wf S) : countS S ≤ 1024 := by
  have h1 := distinct_le (liveL S.vols)
  have h2 := live_le (l := S.vols) (fun v hv => by
    have h3 := Rise.len (L := v.pl) (t := 0) (n := v.size) (G.rise v hv) (fun x hx => G.keys v hv x hx) (G.sizes v hv).1
    have h4 := (G.sizes v hv).2
    omega)
  have h3 := vols_len G W
  unfold countS
  omega
theorem write_cnt {S S' : MS} (G : Good S) (W : Wf S) (O : OneP S) {ns : List Int} {ts : List (List UInt8)} {er : Int} {d : List UInt8} {t : Bool} (he : er = 0) (h : DoR S 7 ns ts er d t S') : wrap64 ((countS S : Int) + (wantS S 7 ns ts : Int)) = (countS S' : Int) := by
  subst he
  have h1 := write_count G W O h
  have h2 := good_do G W h
  have h3 := count_le h2.1 h2.2.1
  unfold wrap64
  omega
set_option maxHeartbeats 16000000 in
theorem snaps_main (ls : List (List UInt8)) (a : Option Addr) (n c : Nat) (hn : ls.length = n) (z x : Int) (b : Nat) (hx : I64 x) (hb : b < 256) (w : World) (hL : LibOK w) (hr : RowAt w a (ls.map strV)) :
    Calls Tryz.prog 5 #[.int .i64 z, .slice a n c, .int .i64 x, .int .u8 (b : Int)] w fun e w' => e = .returned (.bool true) ∧ Same w w' := by
  refine opq fun R HR => ?_
  have HL0 := Lib.hid hL
  have HRw := Lib.hid hr
  have HN := Lib.hid hn
  have HX := Lib.hid hx
  have HB := Lib.hid hb
  obtain ⟨k, hk1, hk8, hk⟩ := kOf z
  clear hL hr hn hx hb
  go_enter Tryz.func5, Tryz.ntmps5
  go_wp2_with fail
  refine (awake_any w HL0.out).mono ?_
  rintro e w1 ⟨rfl, M⟩
  have J1 := Lib.hid M
  clear M
  go_wp2_with fail
  obtain ⟨K0, hKd⟩ : ∃ K : Nat → Prop, K = fun i => i < w1.heap.size := ⟨_, rfl⟩
  refine (new_some K0 w1 (fun i hi => by rw [hKd] at hi; exact hi) k hk1 hk8).mono ?_
  rintro e w2 ⟨m, rfl, hm, M⟩
  have J2 := Lib.hid (J1.out.same M)
  have HM2 := Lib.hid hm
  have hK00 := Lib.hid (show ∀ i, i < w.heap.size → K0 i from fun i hi => by rw [hKd]; have := J1.out.size; omega)
  clear hm M hKd hk
  unfold bp at *
  go_wp2_with fail
  refine (orders_any ls a n c HN.out w2 (HL0.out.same J2.out) (HRw.out.same J2.out)).mono ?_
  rintro e w3 ⟨a', c', rfl, hro, M⟩
  have J3 := Lib.hid (J2.out.same M)
  obtain ⟨K, hKd⟩ : ∃ z : Nat → Prop, (fun i => K0 i ∨ (w2.heap.size ≤ i ∧ i < w3.heap.size)) = z := ⟨_, rfl⟩
  have HM3 := Lib.hid (show Md Tryz.prog K w3 m (emptyS k) by rw [← hKd]; exact HM2.out.more M)
  have hK0 := Lib.hid (show ∀ i, i < w.heap.size → K i from fun i hi => by rw [← hKd]; exact Or.inl (hK00.out i hi))
  have HRo := Lib.hid hro
  have HRk := Lib.hid (show ∀ i, w2.heap.size ≤ i → i < w3.heap.size → K i from fun i h1 h2 => by rw [← hKd]; exact Or.inr ⟨h1, h2⟩)
  have HF := Lib.hid (orders_form ls)
  have hN60 := orders_len ls
  generalize ordersL ls = L at *
  obtain ⟨N, hNL⟩ : ∃ N, L.length = N := ⟨_, rfl⟩
  rw [hNL] at hN60
  rw [hNL]
  clear hKd M hro HM2 J1 J2 hK00 HRw
  go_wp2_with fail
  go_loopw [12] (fun i wr => ∃ (j : Nat) (S : MS), j ≤ N ∧ i = .int .i64 j ∧ Md Tryz.prog K wr m S ∧ Good S ∧ Wf S ∧ OneP S ∧ Mod (fun i => ¬ K i) w3 wr) (fun i _ => N - (intOf i).toNat)
  case atStart => exact ⟨0, _, Nat.zero_le _, rfl, HM3.out, good_emptyK hk1 hk8, wf_empty k, one_empty k, Mod.refl _ _⟩
  case round =>
    obtain ⟨j, S, hj, rfl, hm, G, Wf0, O, hM⟩ := hrel
    have HMr := Lib.hid hm
    have HG := Lib.hid G
    have HW := Lib.hid Wf0
    have HO := Lib.hid O
    have JM := Lib.hid hM
    have Jr := Lib.hid (same_of J3.out hM hK0.out)
    clear hm G Wf0 O hM HM3
    by_cases hlt : j < N
    · obtain ⟨o, ho⟩ : ∃ o, L[j]? = some o := ⟨_, List.getElem?_eq_getElem (by rw [hNL]; exact hlt)⟩
      have HOF := Lib.hid (HF.out o (List.mem_of_getElem? ho))
      obtain ⟨g, off, rfl, hgB, hgl, hcc⟩ := (HRo.out.mod JM.out (fun i h1 h2 q => q (HRk.out i h1 h2))) (by rw [List.length_map, hNL]; omega)
      have HKg := Lib.hid (show K g from by
        obtain ⟨g', off', e1, e2, e3, -⟩ := HRo.out (by rw [List.length_map, hNL]; omega)
        injection e1 with e1
        injection e1 with e1
        rw [e1]
        exact HRk.out g' e2 e3)
      have hc0 := hcc j (ordW o) (by rw [List.getElem?_map, ho]; rfl)
      have CN := Lib.hid (count_md HMr.out HG.out HW.out)
      clear hcc ho hgB
      go_wp2_with fail
      refine CN.out.mono ?_
      rintro e w4 ⟨rfl, M⟩
      have JM4 := Lib.hid (JM.out.then_ M (fun _ _ q => q.elim))
      have HM4 := Lib.hid (HMr.out.same M)
      have hc4 := (M.cell hgl (fun q => q) _).trans hc0
      have hgl4 : g < w4.heap.size := Nat.lt_of_lt_of_le hgl M.size
      clear M CN JM HMr hc0 hgl
      go_wp2_with fail
      refine (wants_any HM4.out HG.out HW.out o HOF.out.1 (fun t ht => by
        have h1 := HOF.out.2
        unfold OW.fits at h1
        have h2 := of_decide_eq_true (List.all_eq_true.1 h1 t ht)
        omega)).mono ?_
      rintro e w5 ⟨rfl, M⟩
      have JM5 := Lib.hid (JM4.out.then_ M (fun _ _ q => q.elim))
      have HM5 := Lib.hid (HM4.out.same M)
      have hc5 := (M.cell hgl4 (fun q => q) _).trans hc4
      have hgl5 : g < w5.heap.size := Nat.lt_of_lt_of_le hgl4 M.size
      have HL5 := Lib.hid (HL0.out.same (same_of J3.out JM5.out hK0.out))
      clear M JM4 HM4 hc4 hgl4
      go_wp2_with fail
      refine (do_any HM5.out HG.out HW.out o HOF.out.1 HL5.out).mono ?_
      rintro e w6 ⟨er, d, ua, un, uc, S', tells, rfl, hd, hm, M, ht⟩
      have JM6 := Lib.hid (JM5.out.then_ M (fun i _ q => q))
      have HM6 := Lib.hid hm
      have HD := Lib.hid hd
      have HG' := Lib.hid (good_do HG.out HW.out hd)
      have HO' := Lib.hid (one_do HW.out HO.out hd)
      have hc6 := (M.cell hgl5 (fun q => q HKg.out) _).trans hc5
      have hgl6 : g < w6.heap.size := Nat.lt_of_lt_of_le hgl5 M.size
      clear M JM5 HM5 hc5 hgl5 hm hd ht HL5
      obtain ⟨w7, hw7⟩ : ∃ z, w6.alloc (.cells #[.int .i64 er, .string ⟨d.toArray⟩, .slice ua un uc] 31) = z := ⟨_, rfl⟩
      have N7 : Same w6 w7 := by rw [← hw7]; exact (Mod.refl _ _).alloc _
      obtain ⟨xr, hxr⟩ : ∃ z, w6.heap.size = z := ⟨_, rfl⟩
      have BX := Lib.hid (show Blk w7 xr #[.int .i64 er, .string ⟨d.toArray⟩, .slice ua un uc] by rw [← hw7, ← hxr]; exact Blk.new w6 _ 31)
      have JM7 := Lib.hid (JM6.out.then_ N7 (fun _ _ q => q.elim))
      have HM7 := Lib.hid (HM6.out.same N7)
      have hc7 := (N7.cell hgl6 (fun q => q) _).trans hc6
      have hgl7 : g < w7.heap.size := Nat.lt_of_lt_of_le hgl6 N7.size
      clear N7 JM6 HM6 hc6 hgl6
      obtain ⟨kk, ns, ts⟩ := o
      rcases kinds15 HOF.out.1.lt with h | h | h | h | h | h | h | h | h | h | h | h | h | h | h <;> dsimp only at h <;> subst h
      · have hck : w7.cell? ⟨g, off + j, none⟩ = some (.iface 25 (.agg (ordC ⟨0, ns, ts⟩))) := hc7
        have fr7 := fun i => BX.out.free i
        clear hc7
        go_wp2_with (first | (rw [hw7, hxr]; fail) | fail)
        refine (wordF0 _ _).mono ?_
        rintro e w8 ⟨rfl, M⟩
        have JM8 := Lib.hid (JM7.out.then_ M (fun _ _ q => q.elim))
        have HM8 := Lib.hid (HM7.out.same M)
        have BX8 := Lib.hid (BX.out.mod M (fun q => q))
        have b0 := BX8.out.at_ (i := 0) (.int .i64 er) rfl
        clear M JM7 HM7 BX hck fr7
        have HC := Lib.hid (create_count HD.out)
        have CN := Lib.hid (count_md HM8.out HG'.out.1 HG'.out.2.1)
        go_wp2_with fail
        refine CN.out.mono ?_
        rintro e w9 ⟨rfl, M⟩
        have JM9 := Lib.hid (JM8.out.then_ M (fun _ _ q => q.elim))
        have HM9 := Lib.hid (HM8.out.same M)
        rw [HC.out]
        clear M CN
        go_wp2_with fail
        go_roundw
        case rel => exact ⟨j + 1, S', by omega, by go_num, HM9.out, HG'.out.1, HG'.out.2.1, HO'.out, JM9.out⟩
        case measure => simp [intOf]; omega
      · have hck : w7.cell? ⟨g, off + j, none⟩ = some (.iface 79 (.agg (ordC ⟨1, ns, ts⟩))) := hc7
        have fr7 := fun i => BX.out.free i
        clear hc7
        go_wp2_with (first | (rw [hw7, hxr]; fail) | fail)
        refine (wordF1 _ _).mono ?_
        rintro e w8 ⟨rfl, M⟩
        have JM8 := Lib.hid (JM7.out.then_ M (fun _ _ q => q.elim))
        have HM8 := Lib.hid (HM7.out.same M)
        have BX8 := Lib.hid (BX.out.mod M (fun q => q))
        have b0 := BX8.out.at_ (i := 0) (.int .i64 er) rfl
        clear M JM7 HM7 BX hck fr7
        go_wp2_with fail
        go_roundw
        case rel => exact ⟨j + 1, S', by omega, by go_num, HM8.out, HG'.out.1, HG'.out.2.1, HO'.out, JM8.out⟩
        case measure => simp [intOf]; omega
      · have hck : w7.cell? ⟨g, off + j, none⟩ = some (.iface 81 (.agg (ordC ⟨2, ns, ts⟩))) := hc7
        have fr7 := fun i => BX.out.free i
        clear hc7
        go_wp2_with (first | (rw [hw7, hxr]; fail) | fail)
        refine (wordF2 _ _).mono ?_
        rintro e w8 ⟨rfl, M⟩
        have JM8 := Lib.hid (JM7.out.then_ M (fun _ _ q => q.elim))
        have HM8 := Lib.hid (HM7.out.same M)
        have BX8 := Lib.hid (BX.out.mod M (fun q => q))
        have b0 := BX8.out.at_ (i := 0) (.int .i64 er) rfl
        clear M JM7 HM7 BX hck fr7
        go_wp2_with fail
        go_roundw
        case rel => exact ⟨j + 1, S', by omega, by go_num, HM8.out, HG'.out.1, HG'.out.2.1, HO'.out, JM8.out⟩
        case measure => simp [intOf]; omega
      · have hck : w7.cell? ⟨g, off + j, none⟩ = some (.iface 137 (.agg (ordC ⟨3, ns, ts⟩))) := hc7
        have fr7 := fun i => BX.out.free i
        clear hc7
        go_wp2_with (first | (rw [hw7, hxr]; fail) | fail)
        refine (wordF3 _ _).mono ?_
        rintro e w8 ⟨rfl, M⟩
        have JM8 := Lib.hid (JM7.out.then_ M (fun _ _ q => q.elim))
        have HM8 := Lib.hid (HM7.out.same M)
        have BX8 := Lib.hid (BX.out.mod M (fun q => q))
        have b0 := BX8.out.at_ (i := 0) (.int .i64 er) rfl
        clear M JM7 HM7 BX hck fr7
        go_wp2_with fail
        go_roundw
        case rel => exact ⟨j + 1, S', by omega, by go_num, HM8.out, HG'.out.1, HG'.out.2.1, HO'.out, JM8.out⟩
        case measure => simp [intOf]; omega
      · have hck : w7.cell? ⟨g, off + j, none⟩ = some (.iface 139 (.agg (ordC ⟨4, ns, ts⟩))) := hc7
        have fr7 := fun i => BX.out.free i
        clear hc7
        go_wp2_with (first | (rw [hw7, hxr]; fail) | fail)
        refine (wordF4 _ _).mono ?_
        rintro e w8 ⟨rfl, M⟩
        have JM8 := Lib.hid (JM7.out.then_ M (fun _ _ q => q.elim))
        have HM8 := Lib.hid (HM7.out.same M)
        have BX8 := Lib.hid (BX.out.mod M (fun q => q))
        have b0 := BX8.out.at_ (i := 0) (.int .i64 er) rfl
        clear M JM7 HM7 BX hck fr7
        go_wp2_with fail
        go_roundw
        case rel => exact ⟨j + 1, S', by omega, by go_num, HM8.out, HG'.out.1, HG'.out.2.1, HO'.out, JM8.out⟩
        case measure => simp [intOf]; omega
      · have hck : w7.cell? ⟨g, off + j, none⟩ = some (.iface 141 (.agg (ordC ⟨5, ns, ts⟩))) := hc7
        have fr7 := fun i => BX.out.free i
        clear hc7
        go_wp2_with (first | (rw [hw7, hxr]; fail) | fail)
        refine (wordF5 _ _).mono ?_
        rintro e w8 ⟨rfl, M⟩
        have JM8 := Lib.hid (JM7.out.then_ M (fun _ _ q => q.elim))
        have HM8 := Lib.hid (HM7.out.same M)
        have BX8 := Lib.hid (BX.out.mod M (fun q => q))
        have b0 := BX8.out.at_ (i := 0) (.int .i64 er) rfl
        clear M JM7 HM7 BX hck fr7
        go_wp2_with fail
        go_roundw
        case rel => exact ⟨j + 1, S', by omega, by go_num, HM8.out, HG'.out.1, HG'.out.2.1, HO'.out, JM8.out⟩
        case measure => simp [intOf]; omega
      · have hck : w7.cell? ⟨g, off + j, none⟩ = some (.iface 94 (.agg (ordC ⟨6, ns, ts⟩))) := hc7
        have fr7 := fun i => BX.out.free i
        clear hc7
        go_wp2_with (first | (rw [hw7, hxr]; fail) | fail)
        refine (wordF6 _ _).mono ?_
        rintro e w8 ⟨rfl, M⟩
        have JM8 := Lib.hid (JM7.out.then_ M (fun _ _ q => q.elim))
        have HM8 := Lib.hid (HM7.out.same M)
        have BX8 := Lib.hid (BX.out.mod M (fun q => q))
        have b0 := BX8.out.at_ (i := 0) (.int .i64 er) rfl
        clear M JM7 HM7 BX hck fr7
        go_wp2_with fail
        go_roundw
        case rel => exact ⟨j + 1, S', by omega, by go_num, HM8.out, HG'.out.1, HG'.out.2.1, HO'.out, JM8.out⟩
        case measure => simp [intOf]; omega
      · have hck : w7.cell? ⟨g, off + j, none⟩ = some (.iface 38 (.agg (ordC ⟨7, ns, ts⟩))) := hc7
        have fr7 := fun i => BX.out.free i
        clear hc7
        go_wp2_with (first | (rw [hw7, hxr]; fail) | fail)
        refine (wordF7 _ _).mono ?_
        rintro e w8 ⟨rfl, M⟩
        have JM8 := Lib.hid (JM7.out.then_ M (fun _ _ q => q.elim))
        have HM8 := Lib.hid (HM7.out.same M)
        have BX8 := Lib.hid (BX.out.mod M (fun q => q))
        have b0 := BX8.out.at_ (i := 0) (.int .i64 er) rfl
        clear M JM7 HM7 BX hck fr7
        by_cases he : er = 0
        · have he0 : (er == 0) = true := by simp [he]
          have HC := Lib.hid (write_cnt HG.out HW.out HO.out he HD.out)
          have CN := Lib.hid (count_md HM8.out HG'.out.1 HG'.out.2.1)
          go_wp2_with fail
          refine CN.out.mono ?_
          rintro e w9 ⟨rfl, M⟩
          have JM9 := Lib.hid (JM8.out.then_ M (fun _ _ q => q.elim))
          have HM9 := Lib.hid (HM8.out.same M)
          have hcw := HC.out
          clear M CN
          go_wp2_with fail
          go_roundw
          case rel => exact ⟨j + 1, S', by omega, by go_num, HM9.out, HG'.out.1, HG'.out.2.1, HO'.out, JM9.out⟩
          case measure => simp [intOf]; omega
        · have he0 : (er == 0) = false := by simp [he]
          go_wp2_with fail
          go_roundw
          case rel => exact ⟨j + 1, S', by omega, by go_num, HM8.out, HG'.out.1, HG'.out.2.1, HO'.out, JM8.out⟩
          case measure => simp [intOf]; omega
      · have hck : w7.cell? ⟨g, off + j, none⟩ = some (.iface 42 (.agg (ordC ⟨8, ns, ts⟩))) := hc7
        have fr7 := fun i => BX.out.free i
        clear hc7
        go_wp2_with (first | (rw [hw7, hxr]; fail) | fail)
        refine (wordF8 _ _).mono ?_
        rintro e w8 ⟨rfl, M⟩
        have JM8 := Lib.hid (JM7.out.then_ M (fun _ _ q => q.elim))
        have HM8 := Lib.hid (HM7.out.same M)
        have BX8 := Lib.hid (BX.out.mod M (fun q => q))
        have b0 := BX8.out.at_ (i := 0) (.int .i64 er) rfl
        clear M JM7 HM7 BX hck fr7
        go_wp2_with fail
        go_roundw
        case rel => exact ⟨j + 1, S', by omega, by go_num, HM8.out, HG'.out.1, HG'.out.2.1, HO'.out, JM8.out⟩
        case measure => simp [intOf]; omega
      · have hck : w7.cell? ⟨g, off + j, none⟩ = some (.iface 40 (.agg (ordC ⟨9, ns, ts⟩))) := hc7
        have fr7 := fun i => BX.out.free i
        clear hc7
        go_wp2_with (first | (rw [hw7, hxr]; fail) | fail)
        refine (wordF9 _ _).mono ?_
        rintro e w8 ⟨rfl, M⟩
        have JM8 := Lib.hid (JM7.out.then_ M (fun _ _ q => q.elim))
        have HM8 := Lib.hid (HM7.out.same M)
        have BX8 := Lib.hid (BX.out.mod M (fun q => q))
        have b0 := BX8.out.at_ (i := 0) (.int .i64 er) rfl
        clear M JM7 HM7 BX hck fr7
        go_wp2_with fail
        go_roundw
        case rel => exact ⟨j + 1, S', by omega, by go_num, HM8.out, HG'.out.1, HG'.out.2.1, HO'.out, JM8.out⟩
        case measure => simp [intOf]; omega
      · have hck : w7.cell? ⟨g, off + j, none⟩ = some (.iface 188 (.agg (ordC ⟨10, ns, ts⟩))) := hc7
        have fr7 := fun i => BX.out.free i
        clear hc7
        go_wp2_with (first | (rw [hw7, hxr]; fail) | fail)
        refine (wordF10 _ _).mono ?_
        rintro e w8 ⟨rfl, M⟩
        have JM8 := Lib.hid (JM7.out.then_ M (fun _ _ q => q.elim))
        have HM8 := Lib.hid (HM7.out.same M)
        have BX8 := Lib.hid (BX.out.mod M (fun q => q))
        have b0 := BX8.out.at_ (i := 0) (.int .i64 er) rfl
        clear M JM7 HM7 BX hck fr7
        go_wp2_with fail
        go_roundw
        case rel => exact ⟨j + 1, S', by omega, by go_num, HM8.out, HG'.out.1, HG'.out.2.1, HO'.out, JM8.out⟩
        case measure => simp [intOf]; omega
      · have hck : w7.cell? ⟨g, off + j, none⟩ = some (.iface 189 (.agg (ordC ⟨11, ns, ts⟩))) := hc7
        have fr7 := fun i => BX.out.free i
        clear hc7
        go_wp2_with (first | (rw [hw7, hxr]; fail) | fail)
        refine (wordF11 _ _).mono ?_
        rintro e w8 ⟨rfl, M⟩
        have JM8 := Lib.hid (JM7.out.then_ M (fun _ _ q => q.elim))
        have HM8 := Lib.hid (HM7.out.same M)
        have BX8 := Lib.hid (BX.out.mod M (fun q => q))
        have b0 := BX8.out.at_ (i := 0) (.int .i64 er) rfl
        clear M JM7 HM7 BX hck fr7
        go_wp2_with fail
        go_roundw
        case rel => exact ⟨j + 1, S', by omega, by go_num, HM8.out, HG'.out.1, HG'.out.2.1, HO'.out, JM8.out⟩
        case measure => simp [intOf]; omega
      · have hck : w7.cell? ⟨g, off + j, none⟩ = some (.iface 117 (.agg (ordC ⟨12, ns, ts⟩))) := hc7
        have fr7 := fun i => BX.out.free i
        clear hc7
        go_wp2_with (first | (rw [hw7, hxr]; fail) | fail)
        refine (wordF12 _ _).mono ?_
        rintro e w8 ⟨rfl, M⟩
        have JM8 := Lib.hid (JM7.out.then_ M (fun _ _ q => q.elim))
        have HM8 := Lib.hid (HM7.out.same M)
        have BX8 := Lib.hid (BX.out.mod M (fun q => q))
        have b0 := BX8.out.at_ (i := 0) (.int .i64 er) rfl
        clear M JM7 HM7 BX hck fr7
        go_wp2_with fail
        go_roundw
        case rel => exact ⟨j + 1, S', by omega, by go_num, HM8.out, HG'.out.1, HG'.out.2.1, HO'.out, JM8.out⟩
        case measure => simp [intOf]; omega
      · have hck : w7.cell? ⟨g, off + j, none⟩ = some (.iface 191 (.agg (ordC ⟨13, ns, ts⟩))) := hc7
        have fr7 := fun i => BX.out.free i
        clear hc7
        go_wp2_with (first | (rw [hw7, hxr]; fail) | fail)
        refine (wordF13 _ _).mono ?_
        rintro e w8 ⟨rfl, M⟩
        have JM8 := Lib.hid (JM7.out.then_ M (fun _ _ q => q.elim))
        have HM8 := Lib.hid (HM7.out.same M)
        have BX8 := Lib.hid (BX.out.mod M (fun q => q))
        have b0 := BX8.out.at_ (i := 0) (.int .i64 er) rfl
        clear M JM7 HM7 BX hck fr7
        go_wp2_with fail
        go_roundw
        case rel => exact ⟨j + 1, S', by omega, by go_num, HM8.out, HG'.out.1, HG'.out.2.1, HO'.out, JM8.out⟩
        case measure => simp [intOf]; omega
      · have hck : w7.cell? ⟨g, off + j, none⟩ = some (.iface 45 (.agg (ordC ⟨14, ns, ts⟩))) := hc7
        have fr7 := fun i => BX.out.free i
        clear hc7
        go_wp2_with (first | (rw [hw7, hxr]; fail) | fail)
        refine (wordF14 _ _).mono ?_
        rintro e w8 ⟨rfl, M⟩
        have JM8 := Lib.hid (JM7.out.then_ M (fun _ _ q => q.elim))
        have HM8 := Lib.hid (HM7.out.same M)
        have BX8 := Lib.hid (BX.out.mod M (fun q => q))
        have b0 := BX8.out.at_ (i := 0) (.int .i64 er) rfl
        clear M JM7 HM7 BX hck fr7
        go_wp2_with fail
        go_roundw
        case rel => exact ⟨j + 1, S', by omega, by go_num, HM8.out, HG'.out.1, HG'.out.2.1, HO'.out, JM8.out⟩
        case measure => simp [intOf]; omega
    · obtain rfl : j = N := by omega
      obtain ⟨w20, hw20⟩ : ∃ z, z = wr := ⟨_, rfl⟩
      subst hw20
      have J20 := Lib.hid Jr.out
      have HM20 := Lib.hid HMr.out
      clear Jr HMr JM HRo HRk HF HO
      obtain ⟨T, hT⟩ : ∃ T, List.replicate 16 (UInt8.ofNat b) = T := ⟨_, rfl⟩
      have hT16 : T.length = 16 := by rw [← hT]; simp
      have HFL := Lib.hid (fun w => fill_one w b HB.out)
      rw [hT] at HFL
      unfold strV at HFL
      have HL21 := Lib.hid (HL0.out.same J20.out)
      go_wp2_with fail
      refine (show Calls Tryz.prog 20 #[bp m, .iface 79 (.agg #[.int .i64 14])] w20 _ from do_any HM20.out HG.out HW.out ⟨1, [14], []⟩ ⟨by decide, rfl, rfl, by simp [J64]⟩ HL21.out).mono ?_
      rintro e w21 ⟨rA, dA, uaA, unA, ucA, SA, tA, rfl, hd, hm, M, ht⟩
      have DA := Lib.hid hd
      have TVA := Lib.hid ht
      have HM21 := Lib.hid hm
      have GA := Lib.hid (good_do HG.out HW.out hd)
      have J21 := Lib.hid (same_of J20.out M hK0.out)
      have WA := Lib.hid GA.out.2.1
      have GGA := Lib.hid GA.out.1
      clear hd hm M ht HL21
      have HL22 := Lib.hid (HL0.out.same J21.out)
      go_wp2_with fail
      refine (show Calls Tryz.prog 20 #[bp m, .iface 79 (.agg #[.int .i64 15])] w21 _ from do_any HM21.out GGA.out WA.out ⟨1, [15], []⟩ ⟨by decide, rfl, rfl, by simp [J64]⟩ HL22.out).mono ?_
      rintro e w22 ⟨rB, dB, uaB, unB, ucB, SB, tB, rfl, hd, hm, M, ht⟩
      have DB := Lib.hid hd
      have TVB := Lib.hid ht
      have HM22 := Lib.hid hm
      have GB := Lib.hid (good_do GGA.out WA.out hd)
      have J22 := Lib.hid (same_of J21.out M hK0.out)
      have WB := Lib.hid GB.out.2.1
      have GGB := Lib.hid GB.out.1
      clear hd hm M ht HL22
      have HL23 := Lib.hid (HL0.out.same J22.out)
      go_wp2_with fail
      refine (show Calls Tryz.prog 20 #[bp m, .iface 79 (.agg #[.int .i64 16])] w22 _ from do_any HM22.out GGB.out WB.out ⟨1, [16], []⟩ ⟨by decide, rfl, rfl, by simp [J64]⟩ HL23.out).mono ?_
      rintro e w23 ⟨rC, dC, uaC, unC, ucC, SC, tC, rfl, hd, hm, M, ht⟩
      have DC := Lib.hid hd
      have TVC := Lib.hid ht
      have HM23 := Lib.hid hm
      have GC := Lib.hid (good_do GGB.out WB.out hd)
      have J23 := Lib.hid (same_of J22.out M hK0.out)
      have WC := Lib.hid GC.out.2.1
      have GGC := Lib.hid GC.out.1
      clear hd hm M ht HL23
      have HL24 := Lib.hid (HL0.out.same J23.out)
      go_wp2_with fail
      refine (show Calls Tryz.prog 20 #[bp m, .iface 81 (.agg #[.int .i64 1, .int .i64 14])] w23 _ from do_any HM23.out GGC.out WC.out ⟨2, [1, 14], []⟩ ⟨by decide, rfl, rfl, by simp [J64]⟩ HL24.out).mono ?_
      rintro e w24 ⟨rD, dD, uaD, unD, ucD, SD, tD, rfl, hd, hm, M, ht⟩
      have DD := Lib.hid hd
      have TVD := Lib.hid ht
      have HM24 := Lib.hid hm
      have GD := Lib.hid (good_do GGC.out WC.out hd)
      have J24 := Lib.hid (same_of J23.out M hK0.out)
      have WD := Lib.hid GD.out.2.1
      have GGD := Lib.hid GD.out.1
      clear hd hm M ht HL24
      by_cases q4 : rD = 0
      case neg =>
        have q4n : (rD != 0) = true := by simp [q4]
        go_wp2_with fail
        exact HR.out _ _ ⟨rfl, J24.out⟩
      subst q4
      have n15 := Lib.hid (show findV SC 15 = none by rw [(del_find DC.out).2 15 (by decide)]; exact (del_find DB.out).1)
      have n16 := Lib.hid (del_find DC.out).1
      have HL25 := Lib.hid (HL0.out.same J24.out)
      go_wp2_with fail
      refine (show Calls Tryz.prog 20 #[bp m, .iface 81 (.agg #[.int .i64 1, .int .i64 15])] w24 _ from do_any HM24.out GGD.out WD.out ⟨2, [1, 15], []⟩ ⟨by decide, rfl, rfl, by simp [J64]⟩ HL25.out).mono ?_
      rintro e w25 ⟨rE, dE, uaE, unE, ucE, SE, tE, rfl, hd, hm, M, ht⟩
      have DE := Lib.hid hd
      have TVE := Lib.hid ht
      have HM25 := Lib.hid hm
      have GE := Lib.hid (good_do GGD.out WD.out hd)
      have J25 := Lib.hid (same_of J24.out M hK0.out)
      have WE := Lib.hid GE.out.2.1
      have GGE := Lib.hid GE.out.1
      clear hd hm M ht HL25
      obtain rfl := snaps_five n15.out DD.out DE.out
      have HL26 := Lib.hid (HL0.out.same J25.out)
      go_wp2_with fail
      refine (show Calls Tryz.prog 20 #[bp m, .iface 81 (.agg #[.int .i64 14, .int .i64 16])] w25 _ from do_any HM25.out GGE.out WE.out ⟨2, [14, 16], []⟩ ⟨by decide, rfl, rfl, by simp [J64]⟩ HL26.out).mono ?_
      rintro e w26 ⟨rF, dF, uaF, unF, ucF, SF, tF, rfl, hd, hm, M, ht⟩
      have DF := Lib.hid hd
      have TVF := Lib.hid ht
      have HM26 := Lib.hid hm
      have GF := Lib.hid (good_do GGE.out WE.out hd)
      have J26 := Lib.hid (same_of J25.out M hK0.out)
      have WF := Lib.hid GF.out.2.1
      have GGF := Lib.hid GF.out.1
      clear hd hm M ht HL26
      have LAW := Lib.hid (snaps_law n15.out n16.out GGF.out WF.out DD.out DE.out DF.out x T hT16)
      obtain rfl := LAW.out.2.1
      go_wp2_with fail
      refine (HFL.out w26).mono ?_
      rintro e w27 ⟨rfl, M⟩
      have J27 := Lib.hid (J26.out.same M)
      have HM27 := Lib.hid (HM26.out.same M)
      obtain ⟨w28, hw28⟩ : ∃ z, w27.alloc (.cells #[.int .i64 15, .int .i64 x, .string ⟨T.toArray⟩] 38) = z := ⟨_, rfl⟩
      have N28 := Lib.hid (show Same w27 w28 by rw [← hw28]; exact (Mod.refl _ _).alloc _)
      have J28 := Lib.hid (J27.out.same N28.out)
      obtain ⟨xX, hxX⟩ : ∃ z, w27.heap.size = z := ⟨_, rfl⟩
      have BX28 := Lib.hid (show Blk w28 xX #[.int .i64 15, .int .i64 x, .string ⟨T.toArray⟩] by rw [← hw28, ← hxX]; exact Blk.new w27 _ 38)
      obtain ⟨KX, hKX⟩ : ∃ z : Nat → Prop, (fun i => K i ∨ (w27.heap.size ≤ i ∧ i < w28.heap.size)) = z := ⟨_, rfl⟩
      have HM28 := Lib.hid (show Md Tryz.prog KX w28 m SF by rw [← hKX]; exact HM27.out.more N28.out)
      have hX0 := Lib.hid (show ∀ i, i < w.heap.size → KX i from fun i hi => by rw [← hKX]; exact Or.inl (hK0.out i hi))
      have kX28 := Lib.hid (show KX xX by rw [← hKX]; exact Or.inr ⟨by omega, by have := BX28.out.lt; omega⟩)
      clear hKX HM27 J27
      go_wp2_with fail
      refine (HFL.out w28).mono ?_
      rintro e w29 ⟨rfl, M⟩
      have J29 := Lib.hid (J28.out.same M)
      have HM29 := Lib.hid (HM28.out.same M)
      have BX29 := Lib.hid (BX28.out.mod M (fun q => q))
      have kX29 := Lib.hid kX28.out
      obtain ⟨w30, hw30⟩ : ∃ z, w29.alloc (.cells #[.int .i64 16, .int .i64 x, .string ⟨T.toArray⟩] 38) = z := ⟨_, rfl⟩
      have N30 := Lib.hid (show Same w29 w30 by rw [← hw30]; exact (Mod.refl _ _).alloc _)
      have J30 := Lib.hid (J29.out.same N30.out)
      obtain ⟨xY, hxY⟩ : ∃ z, w29.heap.size = z := ⟨_, rfl⟩
      have BY30 := Lib.hid (show Blk w30 xY #[.int .i64 16, .int .i64 x, .string ⟨T.toArray⟩] by rw [← hw30, ← hxY]; exact Blk.new w29 _ 38)
      obtain ⟨KY, hKY⟩ : ∃ z : Nat → Prop, (fun i => KX i ∨ (w29.heap.size ≤ i ∧ i < w30.heap.size)) = z := ⟨_, rfl⟩
      have HM30 := Lib.hid (show Md Tryz.prog KY w30 m SF by rw [← hKY]; exact HM29.out.more N30.out)
      have hY0 := Lib.hid (show ∀ i, i < w.heap.size → KY i from fun i hi => by rw [← hKY]; exact Or.inl (hX0.out i hi))
      have kY30 := Lib.hid (show KY xY by rw [← hKY]; exact Or.inr ⟨by omega, by have := BY30.out.lt; omega⟩)
      have BX30 := Lib.hid (BX29.out.mod N30.out (fun q => q))
      have kX30 := Lib.hid (show KY xX by rw [← hKY]; exact Or.inl kX29.out)
      clear hKY HM29 J29 BX29 kX29
      have q0 := BX30.out.at_ (i := 0) _ rfl
      have q1 := BX30.out.at_ (i := 1) _ rfl
      have q2 := BX30.out.at_ (i := 2) _ rfl
      go_wp2_with fail
      refine (show Calls Tryz.prog 18 #[bp m, .iface 38 (.agg #[.int .i64 15, .int .i64 x, .string ⟨T.toArray⟩])] w30 _ from wants_any HM30.out GGF.out WF.out ⟨7, [15, x], [T]⟩ ⟨(by show 7 < 15; decide), rfl, rfl, by intro q hq; simp at hq; rcases hq with rfl | rfl; exact (by unfold J64; omega); exact HX.out.bd⟩ (by simp [hT16])).mono ?_
      rintro e w31 ⟨rfl, M⟩
      have J31 := Lib.hid (J30.out.same M)
      have HM31 := Lib.hid (HM30.out.same M)
      have BX31 := Lib.hid (BX30.out.mod M (fun q => q))
      have kX31 := Lib.hid kX30.out
      have BY31 := Lib.hid (BY30.out.mod M (fun q => q))
      have kY31 := Lib.hid kY30.out
      clear q0 q1 q2
      have q0 := BY31.out.at_ (i := 0) _ rfl
      have q1 := BY31.out.at_ (i := 1) _ rfl
      have q2 := BY31.out.at_ (i := 2) _ rfl
      go_wp2_with fail
      refine (show Calls Tryz.prog 18 #[bp m, .iface 38 (.agg #[.int .i64 16, .int .i64 x, .string ⟨T.toArray⟩])] w31 _ from wants_any HM31.out GGF.out WF.out ⟨7, [16, x], [T]⟩ ⟨(by show 7 < 15; decide), rfl, rfl, by intro q hq; simp at hq; rcases hq with rfl | rfl; exact (by unfold J64; omega); exact HX.out.bd⟩ (by simp [hT16])).mono ?_
      rintro e w32 ⟨rfl, M⟩
      have J32 := Lib.hid (J31.out.same M)
      have HM32 := Lib.hid (HM31.out.same M)
      have BX32 := Lib.hid (BX31.out.mod M (fun q => q))
      have kX32 := Lib.hid kX31.out
      have BY32 := Lib.hid (BY31.out.mod M (fun q => q))
      have kY32 := Lib.hid kY31.out
      clear q0 q1 q2
      have q0 := BX32.out.at_ (i := 0) _ rfl
      have q1 := BX32.out.at_ (i := 1) _ rfl
      have q2 := BX32.out.at_ (i := 2) _ rfl
      have HL33 := Lib.hid (HL0.out.same J32.out)
      go_wp2_with fail
      refine (show Calls Tryz.prog 20 #[bp m, .iface 38 (.agg #[.int .i64 15, .int .i64 x, strV (T)])] w32 _ from do_any HM32.out GGF.out WF.out ⟨7, [15, x], [T]⟩ ⟨(by show 7 < 15; decide), rfl, rfl, by intro q hq; simp at hq; rcases hq with rfl | rfl; exact (by unfold J64; omega); exact HX.out.bd⟩ HL33.out).mono ?_
      rintro e w33 ⟨rP, dP, uaP, unP, ucP, SP, tP, rfl, hd, hm, M, ht⟩
      have DP := Lib.hid hd
      have TVP := Lib.hid ht
      have HM33 := Lib.hid hm
      have GP := Lib.hid (good_do GGF.out WF.out hd)
      have J33 := Lib.hid (same_of J32.out M hY0.out)
      have BX33 := Lib.hid (BX32.out.mod M (fun q => q kX32.out))
      have kX33 := Lib.hid kX32.out
      have BY33 := Lib.hid (BY32.out.mod M (fun q => q kY32.out))
      have kY33 := Lib.hid kY32.out
      have WP := Lib.hid GP.out.2.1
      have GGP := Lib.hid GP.out.1
      clear hd hm M ht HL33
      obtain ⟨w34, hw34⟩ : ∃ z, w33.alloc (.cells #[.int .i64 rP, .string ⟨dP.toArray⟩, .slice uaP unP ucP] 31) = z := ⟨_, rfl⟩
      have N34 := Lib.hid (show Same w33 w34 by rw [← hw34]; exact (Mod.refl _ _).alloc _)
      have J34 := Lib.hid (J33.out.same N34.out)
      obtain ⟨xP, hxP⟩ : ∃ z, w33.heap.size = z := ⟨_, rfl⟩
      have BP34 := Lib.hid (show Blk w34 xP #[.int .i64 rP, .string ⟨dP.toArray⟩, .slice uaP unP ucP] by rw [← hw34, ← hxP]; exact Blk.new w33 _ 31)
      obtain ⟨KP, hKP⟩ : ∃ z : Nat → Prop, (fun i => KY i ∨ (w33.heap.size ≤ i ∧ i < w34.heap.size)) = z := ⟨_, rfl⟩
      have HM34 := Lib.hid (show Md Tryz.prog KP w34 m SP by rw [← hKP]; exact HM33.out.more N34.out)
      have hP0 := Lib.hid (show ∀ i, i < w.heap.size → KP i from fun i hi => by rw [← hKP]; exact Or.inl (hY0.out i hi))
      have kP34 := Lib.hid (show KP xP by rw [← hKP]; exact Or.inr ⟨by omega, by have := BP34.out.lt; omega⟩)
      have BX34 := Lib.hid (BX33.out.mod N34.out (fun q => q))
      have kX34 := Lib.hid (show KP xX by rw [← hKP]; exact Or.inl kX33.out)
      have BY34 := Lib.hid (BY33.out.mod N34.out (fun q => q))
      have kY34 := Lib.hid (show KP xY by rw [← hKP]; exact Or.inl kY33.out)
      clear hKP HM33 J33 BX33 kX33 BY33 kY33
      clear q0 q1 q2
      have q0 := BY34.out.at_ (i := 0) _ rfl
      have q1 := BY34.out.at_ (i := 1) _ rfl
      have q2 := BY34.out.at_ (i := 2) _ rfl
      have HL35 := Lib.hid (HL0.out.same J34.out)
      go_wp2_with fail
      refine (show Calls Tryz.prog 20 #[bp m, .iface 38 (.agg #[.int .i64 16, .int .i64 x, strV (T)])] w34 _ from do_any HM34.out GGP.out WP.out ⟨7, [16, x], [T]⟩ ⟨(by show 7 < 15; decide), rfl, rfl, by intro q hq; simp at hq; rcases hq with rfl | rfl; exact (by unfold J64; omega); exact HX.out.bd⟩ HL35.out).mono ?_
      rintro e w35 ⟨rQ, dQ, uaQ, unQ, ucQ, SQ, tQ, rfl, hd, hm, M, ht⟩
      have DQ := Lib.hid hd
      have TVQ := Lib.hid ht
      have HM35 := Lib.hid hm
      have GQ := Lib.hid (good_do GGP.out WP.out hd)
      have J35 := Lib.hid (same_of J34.out M hP0.out)
      have BX35 := Lib.hid (BX34.out.mod M (fun q => q kX34.out))
      have kX35 := Lib.hid kX34.out
      have BY35 := Lib.hid (BY34.out.mod M (fun q => q kY34.out))
      have kY35 := Lib.hid kY34.out
      have BP35 := Lib.hid (BP34.out.mod M (fun q => q kP34.out))
      have kP35 := Lib.hid kP34.out
      have WQ := Lib.hid GQ.out.2.1
      have GGQ := Lib.hid GQ.out.1
      clear hd hm M ht HL35
      obtain ⟨w36, hw36⟩ : ∃ z, w35.alloc (.cells #[.int .i64 rQ, .string ⟨dQ.toArray⟩, .slice uaQ unQ ucQ] 31) = z := ⟨_, rfl⟩
      have N36 := Lib.hid (show Same w35 w36 by rw [← hw36]; exact (Mod.refl _ _).alloc _)
      have J36 := Lib.hid (J35.out.same N36.out)
      obtain ⟨xQ, hxQ⟩ : ∃ z, w35.heap.size = z := ⟨_, rfl⟩
      have BQ36 := Lib.hid (show Blk w36 xQ #[.int .i64 rQ, .string ⟨dQ.toArray⟩, .slice uaQ unQ ucQ] by rw [← hw36, ← hxQ]; exact Blk.new w35 _ 31)
      obtain ⟨KQ, hKQ⟩ : ∃ z : Nat → Prop, (fun i => KP i ∨ (w35.heap.size ≤ i ∧ i < w36.heap.size)) = z := ⟨_, rfl⟩
      have HM36 := Lib.hid (show Md Tryz.prog KQ w36 m SQ by rw [← hKQ]; exact HM35.out.more N36.out)
      have hQ0 := Lib.hid (show ∀ i, i < w.heap.size → KQ i from fun i hi => by rw [← hKQ]; exact Or.inl (hP0.out i hi))
      have kQ36 := Lib.hid (show KQ xQ by rw [← hKQ]; exact Or.inr ⟨by omega, by have := BQ36.out.lt; omega⟩)
      have BX36 := Lib.hid (BX35.out.mod N36.out (fun q => q))
      have kX36 := Lib.hid (show KQ xX by rw [← hKQ]; exact Or.inl kX35.out)
      have BY36 := Lib.hid (BY35.out.mod N36.out (fun q => q))
      have kY36 := Lib.hid (show KQ xY by rw [← hKQ]; exact Or.inl kY35.out)
      have BP36 := Lib.hid (BP35.out.mod N36.out (fun q => q))
      have kP36 := Lib.hid (show KQ xP by rw [← hKQ]; exact Or.inl kP35.out)
      clear hKQ HM35 J35 BX35 kX35 BY35 kY35 BP35 kP35
      clear q0 q1 q2
      obtain ⟨ePQ, vu, vv, hfu, hfv, hdd⟩ := LAW.out.2.2.2 SP SQ rP rQ dP dQ tP tQ DP.out DQ.out
      have eWW := LAW.out.2.2.1
      have hpos : 0 < SQ.vols.length := List.length_pos_of_mem (findV_mem hfu).1
      have EU := Lib.hid (pickD_find (S := SQ) (acc := []) WQ.out.nd hfu)
      have EV := Lib.hid (pickD_find (S := SQ) (acc := []) WQ.out.nd hfv)
      have ED := Lib.hid hdd
      have EP := Lib.hid ePQ
      have EW := Lib.hid eWW
      have H16 := Lib.hid (vols_len GGQ.out WQ.out)
      clear ePQ eWW hfu hfv hdd
      go_wp2_with fail
      refine (dump_md HM36.out GGQ.out WQ.out).mono ?_
      rintro e w37 ⟨dv, rfl, hdo, -, M⟩
      have J37 := Lib.hid (J36.out.same M)
      have HM37 := Lib.hid (HM36.out.same M)
      have BX37 := Lib.hid (BX36.out.mod M (fun q => q))
      have kX37 := Lib.hid kX36.out
      have BY37 := Lib.hid (BY36.out.mod M (fun q => q))
      have kY37 := Lib.hid kY36.out
      have BP37 := Lib.hid (BP36.out.mod M (fun q => q))
      have kP37 := Lib.hid kP36.out
      have BQ37 := Lib.hid (BQ36.out.mod M (fun q => q))
      have kQ37 := Lib.hid kQ36.out
      obtain ⟨gd, cd, rfl, hdb, hdc, hdr⟩ := RowV.of_owns hdo hpos
      have RD := Lib.hid hdr
      have kd37 := Lib.hid hdr.lt
      clear hdo hdb M hdr
      go_wp2_with fail
      refine (volumes_md HM37.out GGQ.out WQ.out).mono ?_
      rintro e w38 ⟨vv2, rfl, hvo, -, M⟩
      have J38 := Lib.hid (J37.out.same M)
      have HM38 := Lib.hid (HM37.out.same M)
      have BX38 := Lib.hid (BX37.out.mod M (fun q => q))
      have kX38 := Lib.hid kX37.out
      have BY38 := Lib.hid (BY37.out.mod M (fun q => q))
      have kY38 := Lib.hid kY37.out
      have BP38 := Lib.hid (BP37.out.mod M (fun q => q))
      have kP38 := Lib.hid kP37.out
      have BQ38 := Lib.hid (BQ37.out.mod M (fun q => q))
      have kQ38 := Lib.hid kQ37.out
      obtain ⟨gv, cv, rfl, hvb, hvc, hvr⟩ := RowV.of_owns hvo hpos
      have RV := Lib.hid hvr
      have RD2 := Lib.hid (RD.out.mod M (fun q => q))
      clear hvo hvb M RD hvr
      obtain ⟨V, hV⟩ : ∃ V, SQ.vols.length = V := ⟨_, rfl⟩
      rw [hV] at RV RD2 hpos H16
      rw [hV]
      have hV16 := H16.out
      go_wp2_with fail
      go_loopw [25, 26, 27] (fun s t i wr => ∃ j : Nat, j ≤ V ∧ i = .int .i64 j ∧ s = .string ⟨(pickD SQ 15 (SQ.vols.take j) []).toArray⟩ ∧ t = .string ⟨(pickD SQ 16 (SQ.vols.take j) []).toArray⟩ ∧ wr = w38) (fun _ _ i _ => V - (intOf i).toNat)
      case atStart => exact ⟨0, Nat.zero_le _, rfl, rfl, rfl, rfl⟩
      case round =>
        obtain ⟨j2, hj2, rfl, rfl, rfl, hwr⟩ := hrel
        subst wr
        by_cases hlt : j2 < V
        · obtain ⟨vo, hvo⟩ : ∃ v, SQ.vols[j2]? = some v := ⟨_, List.getElem?_eq_getElem (by rw [hV]; exact hlt)⟩
          have tk : SQ.vols.take (j2 + 1) = SQ.vols.take j2 ++ [vo] := by
            obtain ⟨h1, h2⟩ := List.getElem?_eq_some_iff.1 hvo
            rw [List.take_succ_eq_append_getElem h1, h2]
          have p15 := Lib.hid (show pickD SQ 15 (SQ.vols.take (j2 + 1)) [] = if vo.id = 15 then dumpV SQ vo else pickD SQ 15 (SQ.vols.take j2) [] by rw [tk, pickD_snoc])
          have p16 := Lib.hid (show pickD SQ 16 (SQ.vols.take (j2 + 1)) [] = if vo.id = 16 then dumpV SQ vo else pickD SQ 16 (SQ.vols.take j2) [] by rw [tk, pickD_snoc])
          have ci := (RV.out.cell (j2 * 5) (by omega)).trans (show _ = some (Value.int .i64 vo.id) by
            have := info_get hvo (i := 0) (by decide)
            rw [Nat.add_zero] at this
            rw [List.getD_eq_getElem?_getD, this]; rfl)
          have cd := (RD2.out.cell j2 (by omega)).trans (show _ = some (Value.string ⟨(dumpV SQ vo).toArray⟩) by
            rw [List.getD_eq_getElem?_getD, List.getElem?_map]
            unfold dumpS
            rw [List.getElem?_map, hvo]; rfl)
          clear hvo tk
          by_cases h15 : vo.id = 15
          · have b15 : (vo.id == 15) = true := by simp [h15]
            have b16 : (vo.id == 16) = false := by simp [h15]
            go_wp2_with fail
            go_roundw
            case rel => exact ⟨j2 + 1, by omega, by go_num, by rw [p15.out, if_pos h15], by rw [p16.out, if_neg (by omega)], by first | trivial | rfl⟩
            case measure => simp [intOf]; omega
          · by_cases h16 : vo.id = 16
            · have b15 : (vo.id == 15) = false := by simp [h15]
              have b16 : (vo.id == 16) = true := by simp [h16]
              go_wp2_with fail
              go_roundw
              case rel => exact ⟨j2 + 1, by omega, by go_num, by rw [p15.out, if_neg h15], by rw [p16.out, if_pos h16], by first | trivial | rfl⟩
              case measure => simp [intOf]; omega
            · have b15 : (vo.id == 15) = false := by simp [h15]
              have b16 : (vo.id == 16) = false := by simp [h16]
              go_wp2_with fail
              go_roundw
              case rel => exact ⟨j2 + 1, by omega, by go_num, by rw [p15.out, if_neg h15], by rw [p16.out, if_neg h16], by first | trivial | rfl⟩
              case measure => simp [intOf]; omega
        · obtain rfl : j2 = V := by omega
          have EST := Lib.hid (show pickD SQ 15 (SQ.vols.take j2) [] = pickD SQ 16 (SQ.vols.take j2) [] by rw [List.take_of_length_le (by omega), EU.out, EV.out, ED.out])
          rw [EST.out, EW.out]
          generalize pickD SQ 16 (SQ.vols.take j2) [] = DD
          obtain rfl := EP.out
          have HK := Lib.hid (show ∀ W, Same w38 W → (W.cell? ⟨xP, 0, none⟩ = some (.int .i64 rP) ∧ W.cell? ⟨xQ, 0, none⟩ = some (.int .i64 rP) ∧ W.cell? ⟨xX, 0, none⟩ = some (.int .i64 15) ∧ W.cell? ⟨xX, 1, none⟩ = some (.int .i64 x) ∧ W.cell? ⟨xX, 2, none⟩ = some (.string ⟨T.toArray⟩)) from fun W M =>
            ⟨(BP38.out.mod M (fun q => q)).at_ (i := 0) _ rfl, (BQ38.out.mod M (fun q => q)).at_ (i := 0) _ rfl, (BX38.out.mod M (fun q => q)).at_ (i := 0) _ rfl, (BX38.out.mod M (fun q => q)).at_ (i := 1) _ rfl, (BX38.out.mod M (fun q => q)).at_ (i := 2) _ rfl⟩)
          have hS := HK.out w38 (Mod.refl _ _)
          clear EST EU EV ED EW EP LAW
          go_wp2_with fail
          go_region_held3 (fun W => W.cell? ⟨xP, 0, none⟩ = some (.int .i64 rP) ∧ W.cell? ⟨xQ, 0, none⟩ = some (.int .i64 rP) ∧ W.cell? ⟨xX, 0, none⟩ = some (.int .i64 15) ∧ W.cell? ⟨xX, 1, none⟩ = some (.int .i64 x) ∧ W.cell? ⟨xX, 2, none⟩ = some (.string ⟨T.toArray⟩)) (first | exact hS | assumption | exact HK.out _ ((Mod.refl _ _).drew) | exact HK.out _ JA.out) ((
            first
            | (go_at_call 20; refine (do_nil _ _).mono ?_; rintro e wa ⟨rfl, MA⟩; have JA := Lib.hid (show Same w38 wa from ((Mod.refl _ w38).drew).same MA); clear MA)
            | (go_at_call 29; refine (copy_nil _).mono ?_; rintro e wb ⟨rfl, MA⟩; have JA := Lib.hid (JA.out.same MA); clear MA)
            | (go_at_call 24; refine (count_nil _).mono ?_; rintro e wc ⟨rfl, MA⟩; have JA := Lib.hid (JA.out.same MA); clear MA)
            | (go_at_call 18; refine (wants_nil _ _).mono ?_; rintro e wd ⟨rfl, MA⟩; have JA := Lib.hid (JA.out.same MA); clear MA)
            | (go_at_call 23; refine (volumes_nil _).mono ?_; rintro e we ⟨rfl, MA⟩; have JA := Lib.hid (JA.out.same MA); clear MA)
            | (go_at_call 12; refine (dump_nil _).mono ?_; rintro e wf ⟨rfl, MA⟩; have JA := Lib.hid (JA.out.same MA); clear MA)))
          all_goals go_wp2_with fail
          all_goals exact HR.out _ _ ⟨rfl, J38.out.same JA.out⟩
end Go.Proofs.YtlcepoagpocadaaGreatDoor
