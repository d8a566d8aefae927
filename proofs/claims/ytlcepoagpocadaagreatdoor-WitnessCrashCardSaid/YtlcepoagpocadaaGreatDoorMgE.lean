import Derived.Test.YtlcepoagpocadaaGreatDoorMgD
import Derived.Deep.RegionHeld3
import Derived.StillTailTactics
set_option linter.unusedSimpArgs false
set_option linter.unusedVariables false
set_option maxRecDepth 100000
/- A model is copied. -/
namespace Go.Proofs.YtlcepoagpocadaaGreatDoor
open Go Go.RowKit
theorem PM.put_new {P : Program} {w : World} {t k0 e0 el : TypeId} {i : TypeInfo} {b : Nat} {L : List (Option Nat × Value)} (h : PM w b L) (ht : P.underlying t = some (.map k0 el)) (hp : P.underlying k0 = some (.pointer e0)) (hi : P.info? e0 = some i) (hsz : i.size ≠ 0)
    (F : Nat → Array Value) (hB : ∀ x, F x ≠ #[] → Blk w x (F x)) {q : Option Nat} (hq : ∀ c, q = some c → F c ≠ #[]) (hL : ∀ x ∈ L, ∀ c, x.1 = some c → F c ≠ #[]) (hn : ∀ x ∈ L, x.1 ≠ q) (v : Value) :
    ∃ w', (Instr.mapUpdate t (.map (some b)) (pk q) v).run P w = .ok () w' ∧ PM w' b (L ++ [(q, v)]) ∧ Mod (fun i => i = b) w w' := by
  have hl := h.lt
  obtain ⟨es, cl, h1, h2, h3, h4⟩ := h.ex
  obtain ⟨r, f1, f2⟩ := find2 hp hi hsz F hB hq es.toList L h2 hL
  have hk := fun bb => check_pk (w := w) bb hp q
  rcases f2 with ⟨rfl, f3⟩ | ⟨k, u, rfl, f3⟩
  · refine ⟨_, ?_, ⟨⟨es.push { key := pk q, val := v, born := cl }, cl + 1, ?_, ?_, ?_, ?_⟩, ?_⟩, mod_set w b (.map (es.push { key := pk q, val := v, born := cl }) (cl + 1))⟩
    · simp [Instr.mapUpdate, run_underlying ht, MapKept.run_getObj_map h1, hk, f1, MapKept.run_setObj_map _ h1, Result.andThen]
    · simp [hl]
    · simp [h2, me, pe]
    · intro x hx
      simp at hx
      rcases hx with hx | rfl
      · have := h3 x (by simpa using hx); omega
      · exact Nat.lt_succ_self _
    · rw [Array.toList_push, List.map_append, List.nodup_append]
      refine ⟨h4, by simp, ?_⟩
      rintro a ha c hc rfl
      obtain ⟨x, hx, rfl⟩ := List.mem_map.1 ha
      have := h3 x hx
      simp at hc
      omega
    · rw [List.map_append, List.nodup_append]
      refine ⟨h.nd, by simp, ?_⟩
      rintro a ha c hc rfl
      obtain ⟨x, hx, rfl⟩ := List.mem_map.1 ha
      simp at hc
      exact f3 x hx hc
  · exact absurd rfl (hn _ (List.mem_of_getElem? f3))
theorem make157 (W : World) : (Instr.makeMap 157 none).run Tryz.prog W = .ok (.map (some W.heap.size)) (W.alloc (.map #[] 0)) := by kernel_rfl
theorem make106 (W : World) : (Instr.makeMap 106 none).run Tryz.prog W = .ok (.map (some W.heap.size)) (W.alloc (.map #[] 0)) := by kernel_rfl
theorem under157 : Tryz.prog.underlying 157 = some (.map 123 123) := by kernel_rfl
/-- A live chunk in memory. -/
theorem Mem.ch {K : Nat → Prop} {w : World} {m : Nat} {S : MS} {ow : Nat → Int} (h : Mem Tryz.prog K w m S ow) {v : Vo} (hv : v ∈ S.vols) {x : Int × Nat} (hx : x ∈ v.pl) :
    ∃ g cap, Blk w x.2 #[.slice (some ⟨g, 0, none⟩) S.k cap, .int .i64 (ow x.2)] ∧ RowV w g (S.sec x.2).length (txF (S.sec x.2)) := by
  obtain ⟨H, vm, hH, hK, hlt, A⟩ := h
  obtain ⟨g, cap, h1, h2⟩ := A.hc v hv x hx
  refine ⟨g, cap, ?_, ?_⟩
  · have := hH x.2; rw [h1] at this; exact this
  · have := hH g; rw [h2] at this; exact this
/-- A state that is one with a good one but for its chunks' names is good. -/
theorem good_iso {S T : MS} {f : Nat → Nat} (I : Iso S T f) (G : Good S) (WT : Wf T) : Good T := by
  have key : ∀ u ∈ T.vols, ∃ v ∈ S.vols, stripV u = renV f v := fun u hu => by
    have : stripV u ∈ T.vols.map stripV := List.mem_map.2 ⟨u, hu, rfl⟩
    rw [I.vols] at this
    obtain ⟨v, hv, e⟩ := List.mem_map.1 this
    exact ⟨v, hv, e.symm⟩
  refine ⟨by rw [I.k]; exact G.k1, by rw [I.k]; exact G.k8, fun u hu => ?_, fun u hu => ?_, WT.rise, fun u hu x hx => ?_, fun u hu x hx => ?_⟩
  · obtain ⟨v, hv, e⟩ := key u hu
    rw [(strip_eq e).1]; exact G.ids v hv
  · obtain ⟨v, hv, e⟩ := key u hu
    rw [(strip_eq e).2.1]; exact G.sizes v hv
  · obtain ⟨v, hv, e⟩ := key u hu
    rw [(strip_eq e).2.2.2.2] at hx
    unfold renL at hx
    obtain ⟨y, hy, rfl⟩ := List.mem_map.1 hx
    rw [(strip_eq e).2.1]; exact G.keys v hv y hy
  · obtain ⟨v, hv, e⟩ := key u hu
    rw [(strip_eq e).2.2.2.2] at hx
    unfold renL at hx
    obtain ⟨y, hy, rfl⟩ := List.mem_map.1 hx
    dsimp only
    rw [I.sec _ (cnt_pos.2 ⟨v, hv, y, hy, rfl⟩), I.k]
    exact G.secs v hv y hy
theorem CpS.start {S : MS} {ow : Nat → Int} {w : World} {m2 vm2 ab B : Nat} (hv : IMap Tryz.prog 3 w vm2 []) (hm : Blk w m2 #[.int .i64 (S.k : Int), .map (some vm2)]) (ha : PM w ab []) (h1 : vm2 ≠ m2) (h2 : ab ≠ vm2) (h3 : ab ≠ m2) (b1 : B ≤ vm2) (b2 : B ≤ m2) (b3 : B ≤ ab) :
    CpS S ow B w m2 vm2 ab (upd (upd (fun _ => Ob.no) vm2 (.mp m2 [])) m2 (.cl 0 #[.int .i64 (S.k : Int), .map (some vm2)])) (emptyS S.k) (fun _ => 0) [] := by
  refine ⟨fun b => ?_, fun b hb => ?_, ⟨upd_same _ _ _, ?_, ?_, ?_, ?_, List.Pairwise.nil⟩, rfl, ha, ?_, b3, by simp, by simp, by simp⟩
  · by_cases q : b = m2
    · subst q; rw [upd_same]; exact hm
    · rw [upd_ne _ _ q]
      by_cases q2 : b = vm2
      · subst q2; rw [upd_same]; exact hv
      · rw [upd_ne _ _ q2]; trivial
  · by_cases q : b = m2
    · rw [q]; exact b2
    · rw [upd_ne _ _ q] at hb
      by_cases q2 : b = vm2
      · rw [q2]; exact b1
      · rw [upd_ne _ _ q2] at hb; exact absurd rfl hb
  · rw [upd_ne _ _ h1, upd_same]; rfl
  · simp [emptyS]
  · simp [emptyS]
  · simp [emptyS]
  · rw [upd_ne _ _ h3, upd_ne _ _ h2]
section
variable {K : Nat → Prop} {w : World} {m : Nat} {S : MS}
set_option maxHeartbeats 16000000 in
theorem copy_any (h : Md Tryz.prog K w m S) (W : Wf S) (G : Good S) :
    Calls Tryz.prog 29 #[bp m] w fun e w' => ∃ m2 T f, e = .returned (bp m2) ∧ Iso S T f ∧ Wf T ∧ Good T ∧ Md Tryz.prog (fun i => i < w.heap.size) w' m2 T ∧ Same w w' := by
  refine opq fun R HR => ?_
  obtain ⟨ow, hmem, hcnt⟩ := h
  have HM := Lib.hid hmem
  have HC := Lib.hid hcnt
  have HW := Lib.hid W
  have HG := Lib.hid G
  obtain ⟨vm, hb, hm, hv⟩ := hmem.parts
  have HMB := Lib.hid hb
  have HVM := Lib.hid hm
  have k0 := hb.at_ (i := 0) (.int .i64 (S.k : Int)) rfl
  have k1 := hb.at_ (i := 1) (.map (some vm)) rfl
  have hml := hb.lt
  have hvml := hm.lt
  obtain ⟨B, hBd⟩ : ∃ z, w.heap.size = z := ⟨_, rfl⟩
  obtain ⟨W3, hW3⟩ : ∃ z, ((w.alloc (.map #[] 0)).alloc (.cells #[.int .i64 (S.k : Int), .map (some B)] 111)).alloc (.map #[] 0) = z := ⟨_, rfl⟩
  have J3 := Lib.hid (show Same w W3 by rw [← hW3]; exact (((Mod.refl _ _).alloc _).alloc _).alloc _)
  have s3 : W3.heap.size = B + 3 := by rw [← hW3, ← hBd]; simp
  have C3 := Lib.hid (show CpS S ow B W3 (B + 1) B (B + 2) _ (emptyS S.k) (fun _ => 0) [] from CpS.start
    (show IMap Tryz.prog 3 W3 B [] by
      rw [← hW3, ← hBd]
      exact ((IMap.made (P := Tryz.prog) (kt := 3) w).mod ((Mod.refl (fun _ => False) _).alloc _) (fun q => q)).mod ((Mod.refl (fun _ => False) _).alloc _) (fun q => q))
    (show Blk W3 (B + 1) #[.int .i64 (S.k : Int), .map (some B)] by
      rw [← hW3]
      rw [← hBd]
      have := Blk.new (w.alloc (.map #[] 0)) #[.int .i64 (S.k : Int), .map (some w.heap.size)] 111
      rw [World.size_alloc] at this
      exact this.mod ((Mod.refl (fun _ => False) _).alloc _) (fun q => q))
    (show PM W3 (B + 2) [] by
      rw [← hW3, ← hBd]
      have := PM.made ((w.alloc (.map #[] 0)).alloc (.cells #[.int .i64 (S.k : Int), .map (some w.heap.size)] 111))
      rw [World.size_alloc, World.size_alloc] at this
      exact this)
    (by omega) (by omega) (by omega) (Nat.le_refl _) (by omega) (by omega))
  obtain ⟨m2, hm2⟩ : ∃ z, B + 1 = z := ⟨_, rfl⟩
  obtain ⟨ab, hab⟩ : ∃ z, m2 + 1 = z := ⟨_, rfl⟩
  rw [show B + 2 = ab by omega, hm2] at C3
  have k1w := (J3.out.cell hml (fun q => q) 1).trans k1
  have HV3 := Lib.hid (hm.mod J3.out (fun q => q))
  have hmk1 := make109 w
  have hmk2 := make157
  have hm3 : m < W3.heap.size := by omega
  clear hmem hcnt W G hb hm hv
  go_enter Tryz.func29, Tryz.ntmps29
  go_wp2_with (first | (at_range; refine wpList_range_own _ rfl (.tmp 23) 109 rfl 3 102 law3 Tryz.underlying109 ptrR vm (volsL S.vols).length (DM (volsL S.vols)) rfl HV3.out ?_; intro w0 hrg0 hg0 hs0) | fail)
  go_frame
  have hD0 : Mod (fun _ => False) W3 w0 := (Mod.refl _ _).grown hg0 (fun k hk => by cases hk)
  have J0 := Lib.hid (J3.out.same hD0)
  have C0 := Lib.hid (C3.out.same hD0)
  obtain ⟨r, hr⟩ : ∃ z, W3.heap.size = z := ⟨_, rfl⟩
  rw [hr] at hrg0 ⊢
  have hr0 : r < w0.heap.size := by omega
  have RG0 := Lib.hid hrg0
  have hbr : B < m2 ∧ m2 < ab ∧ ab < r := by omega
  have hvr : vm < B := by omega
  have hmB : m < B := by omega
  clear hrg0 hg0 hs0 hD0 k1w hmk1 hmk2 J3 HV3 C3 hW3 k0 k1
  go_loopw [5, 6, 7, 8, 9] (fun _ _ _ _ _ wr => ∃ (left : Lit → Bool) (cn : Nat) (H : Nat → Ob) (T : MS) (ow2 : Nat → Int) (A : List (Nat × Nat)), wr.ranges Tryz.prog 3 ptrR vm r (volsL S.vols).length (DM (volsL S.vols)) left cn ∧ CpS S ow B wr m2 B ab H T ow2 A ∧ H r = .no ∧
      (∀ u ∈ T.vols, ∃ v ∈ S.vols, left (.int .i64 v.id) = false ∧ CpV A v u) ∧ (∀ v ∈ S.vols, left (.int .i64 v.id) = false → ∃ u ∈ T.vols, CpV A v u) ∧ Same w wr) (fun _ _ _ _ _ wr => wr.rangeLeft vm r)
  case atStart =>
    refine ⟨_, _, _, _, _, [], RG0.out, C0.out, ?_, by simp [emptyS], fun v hv hl => ?_, J0.out⟩
    · rw [upd_ne _ _ (by omega), upd_ne _ _ (by omega)]
    · rw [has_enc, (vols_rise HW.out.nd).get (x := (v.id, v.b)) (List.mem_map.2 ⟨v, hv, rfl⟩)] at hl
      cases hl
  case round =>
    obtain ⟨left, cn, H, T, ow2, A, hrg, hcp, hHr, hT1, hT2, hM⟩ := hrel
    have RG := Lib.hid hrg
    have CP := Lib.hid hcp
    have HHr := Lib.hid hHr
    have T1 := Lib.hid hT1
    have T2 := Lib.hid hT2
    have JM := Lib.hid hM
    have hrw : r < wr.heap.size := by have := hrg.lt; omega
    clear hrg hcp hHr hT1 hT2 hM
    go_wp2_with (first
      | (at_next; refine wpList_next_ranges _ rfl (.tmp 24) rfl 3 law3 ptrR (Value.int .i64) ptrO (fun key kl hk => by obtain ⟨x, rfl, _⟩ := Maps.keyOf_int_inv Tryz.underlying3 hk; exact ⟨x, rfl⟩) ptrO_inv vm r (volsL S.vols).length (DM (volsL S.vols)) left cn rfl RG.out ?_ ?_)
      | fail)
    · intro _ hl0
      have DN := Lib.hid (CP.out.done (K := fun i => i < B) HW.out (fun i hi => hi) (by omega) (fun u hu => let ⟨v, a, _, b⟩ := T1.out u hu; ⟨v, a, b⟩) (fun v hv => T2.out v hv (hl0 _)) HC.out)
      go_wp2
      obtain ⟨f, I, WT, MT⟩ := DN.out
      exact HR.out _ _ ⟨m2, T, f, rfl, I, WT, good_iso I HG.out WT, by rw [hBd]; exact MT, JM.out⟩
    · intro x c kl y1 y2 w5 cn2 hkey hlx hR hat hrg1 hlt hg1 hs1 hen
      obtain ⟨x', hx', rfl, hxw⟩ := Maps.keyOf_int_inv Tryz.underlying3 hkey
      injection hx' with _ hx'
      subst hx'
      obtain ⟨d0, rfl, hgd⟩ := step_get (y := (y1, y2)) hR (fun zd => hat zd)
      rw [getL_find] at hgd
      obtain ⟨v, hf, hvb⟩ := Option.map_eq_some_iff.1 hgd
      subst hvb
      obtain ⟨hvm, hvid⟩ := findV_mem hf
      subst hvid
      have M5 : Mod (fun i => i = r) wr w5 := (Mod.refl _ _).grown hg1 (fun k hk _ => by cases hk; rfl)
      have J5 := Lib.hid (JM.out.then_ M5 (fun i hi e => by omega))
      have C5 := Lib.hid (CP.out.mod M5 (fun b q => ⟨by rw [q]; exact HHr.out, by omega⟩))
      obtain ⟨_, -, -, hvv⟩ := (HM.out.same J5.out).parts
      have hbv := (hvv v hvm).1
      have e0 := hbv.at_ (i := 0) (.int .i64 v.id) rfl
      have e1 := hbv.at_ (i := 1) (.int .i64 v.size) rfl
      have e2 := hbv.at_ (i := 2) (.int .i64 0) rfl
      have e3 := hbv.at_ (i := 3) (.bool v.pin) rfl
      have e4 := hbv.at_ (i := 4) (.int .i64 v.fr) rfl
      have e5 := hbv.at_ (i := 5) (.map (some v.pb)) rfl
      have hvbl := hbv.lt
      have RG1 := Lib.hid hrg1
      have HV := Lib.hid hvm
      have HLT := Lib.hid hlt
      have HLX := Lib.hid hlx
      obtain ⟨pbx, hpbx⟩ : ∃ z, w5.heap.size = z := ⟨_, rfl⟩
      obtain ⟨xb, hxb⟩ : ∃ z, pbx + 1 = z := ⟨_, rfl⟩
      have hrp : r < pbx := by omega
      obtain ⟨W8, hW8⟩ : ∃ z, (w5.alloc (.map #[] 0)).alloc (.cells #[.int .i64 v.id, .int .i64 v.size, .int .i64 0, .bool v.pin, .int .i64 v.fr, .map (some pbx)] 108) = z := ⟨_, rfl⟩
      have N8 : Same w5 W8 := by rw [← hW8]; exact ((Mod.refl _ _).alloc _).alloc _
      have J8 := Lib.hid (J5.out.same N8)
      have C8 := Lib.hid (C5.out.same N8)
      have BX8 := Lib.hid (show Blk W8 xb (volC ⟨xb, pbx, v.id, v.size, v.fr, v.pin, []⟩) by
        rw [← hW8, ← hxb, ← hpbx]
        have := Blk.new (w5.alloc (.map #[] 0)) #[.int .i64 v.id, .int .i64 v.size, .int .i64 0, .bool v.pin, .int .i64 v.fr, .map (some w5.heap.size)] 108
        rw [World.size_alloc] at this
        exact this)
      have PX8 := Lib.hid (show IMap Tryz.prog 3 W8 pbx [] by
        rw [← hW8, ← hpbx]
        exact (IMap.made (P := Tryz.prog) (kt := 3) w5).mod ((Mod.refl (fun _ => False) _).alloc _) (fun q => q))
      have s8 : W8.heap.size = pbx + 2 := by rw [← hW8, ← hpbx]; simp
      have RG8 := Lib.hid (RG1.out.kept (show w5.grownBy W8 none from ⟨N8.os, N8.tape, N8.output, N8.size, fun i hi _ => N8.block i hi (fun q => q)⟩) (by simp) (by simp))
      have HP8 := Lib.hid ((hvv v hvm).2.mod N8 (fun q => q))
      have e5w := (N8.cell hvbl (fun q => q) 5).trans e5
      have hmk := make106
      have hvb8 : v.b < W8.heap.size := by omega
      have nx := Lib.hid (C5.out.hH.new (show w5.heap.size ≤ xb by omega))
      have np := Lib.hid (C5.out.hH.new (show w5.heap.size ≤ pbx by omega))
      have RG9 := Lib.hid RG.out.left_eq
      clear hkey hR hat hrg1 hg1 M5 hgd hvv hvm hf hlx hlt hbv hs1 N8 RG1 RG CP JM
      (try dsimp only [ptrO, Option.map] at hen ⊢)
      go_wp2_with (first | (at_range; refine wpList_range_own _ rfl (.tmp 40) 106 rfl 3 123 law3 Tryz.underlying106 ptrR v.pb v.pl.length (DM v.pl) rfl HP8.out ?_; intro w9 hrg9 hg9 hs9) | fail)
      (try go_frame)
      have D9 : Mod (fun _ => False) W8 w9 := (Mod.refl _ _).grown hg9 (fun k hk => by cases hk)
      have RO9 := Lib.hid (RG8.out.kept hg9 (by simp) (by simp))
      have C9 := Lib.hid (C8.out.same D9)
      have J9 := Lib.hid (J8.out.same D9)
      have BX9 := Lib.hid (BX8.out.mod D9 (fun q => q))
      have PX9 := Lib.hid (PX8.out.mod D9 (fun q => q))
      obtain ⟨r2, hr2⟩ : ∃ z, pbx + 2 = z := ⟨_, rfl⟩
      have n2 := Lib.hid (C8.out.hH.new (show W8.heap.size ≤ r2 by omega))
      have hr2l : r2 < w9.heap.size := by have := hrg9.lt; omega
      rw [s8, hr2] at hrg9
      rw [hr2]
      have hord : r < pbx ∧ pbx < xb ∧ xb < r2 := by omega
      have RI9 := Lib.hid hrg9
      have HRi := Lib.hid (HG.out.rise v HV.out)
      have hvpb : v.pb < B := by
        obtain ⟨_, -, -, hq⟩ := HM.out.parts
        have := (hq v HV.out).2.lt
        omega
      clear hrg9 hg9 hs9 D9 e0 e1 e2 e3 e4 e5 e5w HP8 hW8 s8 RG8 C8 J8 BX8 PX8 C5 J5 hr2 hpbx hvbl hvb8
      go_loopw [8, 9] (fun _ _ wz => ∃ (left2 : Lit → Bool) (cn3 : Nat) (H : Nat → Ob) (T1 : MS) (ow1 : Nat → Int) (A1 : List (Nat × Nat)) (pl2 : List (Int × Nat)),
        wz.ranges Tryz.prog 3 ptrR v.pb r2 v.pl.length (DM v.pl) left2 cn3 ∧ wz.ranges Tryz.prog 3 ptrR vm r (volsL S.vols).length (DM (volsL S.vols)) (fun y => left y && !y.sameKey (.int .i64 v.id)) cn2 ∧
        CpS S ow B wz m2 B ab H T1 ow1 A1 ∧ T1.vols = T.vols ∧ (∀ x ∈ A, x ∈ A1) ∧ (H r = .no ∧ H r2 = .no ∧ H xb = .no ∧ H pbx = .no) ∧ Blk wz xb (volC ⟨xb, pbx, v.id, v.size, v.fr, v.pin, []⟩) ∧ IMap Tryz.prog 3 wz pbx pl2 ∧ Rise pl2 ∧
        (∀ y ∈ pl2, ∃ c, (y.1, c) ∈ v.pl ∧ left2 (.int .i64 y.1) = false ∧ (c, y.2) ∈ A1) ∧ (∀ y ∈ v.pl, left2 (.int .i64 y.1) = false → ∃ d, (y.1, d) ∈ pl2 ∧ (y.2, d) ∈ A1) ∧ Same w wz) (fun _ _ wz => wz.rangeLeft v.pb r2)
      case atStart =>
        refine ⟨_, _, H, T, ow2, A, [], RI9.out, RO9.out, C9.out, rfl, fun _ q => q, ⟨HHr.out, n2.out, nx.out, np.out⟩, BX9.out, PX9.out, List.Pairwise.nil, by simp, fun y hy hl => ?_, J9.out⟩
        rw [has_enc, HRi.out.get hy] at hl
        cases hl
      case round =>
        obtain ⟨left2, cn3, H2, T3, ow3, A1, pl2, hrg, hro, hcp, hTv, hAA, hHn, hbx, hpx, hrs, hp1, hp2, hM⟩ := hrel
        have RI := Lib.hid hrg
        have RO := Lib.hid hro
        have CZ := Lib.hid hcp
        have TV := Lib.hid hTv
        have AA := Lib.hid hAA
        have HHn := Lib.hid hHn
        have BX := Lib.hid hbx
        have PX := Lib.hid hpx
        have RS := Lib.hid hrs
        have P1 := Lib.hid hp1
        have P2 := Lib.hid hp2
        have JZ := Lib.hid hM
        have hr2z : r2 < _ := hrg.lt
        have PL := Lib.hid (show pl2.length < 1000000 from by
          have h3 := Rise.len (L := pl2) (t := 0) (n := v.size) hrs (fun x hx => by
            obtain ⟨c, hc, _⟩ := hp1 x hx
            have := HG.out.keys v HV.out _ hc
            exact this) (HG.out.sizes v HV.out).1
          have h4 := (HG.out.sizes v HV.out).2
          omega)
        clear hrg hro hcp hTv hAA hHn hbx hpx hrs hp1 hp2 hM
        go_wp2_with (first
          | (at_next; refine wpList_next_ranges _ rfl (.tmp 41) rfl 3 law3 ptrR (Value.int .i64) ptrO (fun key kl hk => by obtain ⟨x, rfl, _⟩ := Maps.keyOf_int_inv Tryz.underlying3 hk; exact ⟨x, rfl⟩) ptrO_inv v.pb r2 v.pl.length (DM v.pl) left2 cn3 rfl RI.out ?_ ?_)
          | fail)
        · intro _ hl0
          have hm2b : Blk wr m2 #[.int .i64 (S.k : Int), .map (some B)] := by
            have := CZ.out.hH m2
            rw [CZ.out.abs.hm, CZ.out.k] at this
            exact this
          have kk1 := hm2b.at_ (i := 1) (.map (some B)) rfl
          have hIB : IMap Tryz.prog 3 wr B (volsL T3.vols) := by
            have := CZ.out.hH B
            rw [CZ.out.abs.hv] at this
            exact this
          have hTlen : (volsL T3.vols).length < 1000000 := by
            have h3 := Rise.len (L := volsL T3.vols) (t := 1) (n := 17) (vols_rise CZ.out.abs.nd) (fun x hx => by
              unfold volsL at hx
              obtain ⟨u, hu, rfl⟩ := List.mem_map.1 hx
              rw [TV.out] at hu
              obtain ⟨v', hv', _, hc⟩ := T1.out u hu
              have := HG.out.ids v' hv'
              dsimp only
              rw [hc.id]; omega) (by omega)
            omega
          have h0 : getL v.id (volsL T3.vols) = none := getL_none.2 (fun x hx e => by
            unfold volsL at hx
            obtain ⟨u, hu, rfl⟩ := List.mem_map.1 hx
            rw [TV.out] at hu
            obtain ⟨v', hv', hl, hc⟩ := T1.out u hu
            dsimp only at e
            rw [← hc.id, e, HLX.out] at hl
            cases hl)
          obtain ⟨w12, hrun, hi12, hg12⟩ := hIB.put Tryz.underlying3 Tryz.underlying109 hTlen v.id hxw xb
          have M12 : Mod (fun i => i = B) wr w12 := (Mod.refl _ _).grown hg12 (fun k hk _ => by cases hk; rfl)
          obtain ⟨H', hC12, hfar⟩ := CZ.out.vol (w' := w12) ⟨xb, pbx, v.id, v.size, v.fr, v.pin, pl2⟩ BX.out PX.out HHn.out.2.2.1 HHn.out.2.2.2 (by show xb ≠ pbx; omega) (by show B ≤ xb; omega) (by show B ≤ pbx; omega) (by show xb ≠ ab; omega) (by show pbx ≠ ab; omega) (fun x hx => let ⟨c, _, _, b⟩ := P1.out x hx; ⟨c, b⟩) h0 M12 hi12
          have C12 := Lib.hid hC12
          have HF12 := Lib.hid (show H' r = .no by rw [hfar r (by show r ≠ xb; omega) (by show r ≠ pbx; omega) (by omega)]; exact HHn.out.1)
          have RO12 := Lib.hid (RO.out.kept hg12 (fun e => by cases e; omega) (fun e => by cases e; omega))
          have J12 := Lib.hid (JZ.out.then_ M12 (fun i hi e => by omega))
          have CV := Lib.hid (show CpV A1 v ⟨xb, pbx, v.id, v.size, v.fr, v.pin, pl2⟩ from ⟨rfl, rfl, rfl, rfl, fun y hy => let ⟨c, a, _, b⟩ := P1.out y hy; ⟨c, a, b⟩, fun y hy => P2.out y hy (hl0 _), RS.out⟩)
          have T1' := Lib.hid (show ∀ u ∈ insV ⟨xb, pbx, v.id, v.size, v.fr, v.pin, pl2⟩ T3.vols, ∃ v' ∈ S.vols, (left (.int .i64 v'.id) && !(Lit.int .i64 v'.id).sameKey (.int .i64 v.id)) = false ∧ CpV A1 v' u from fun u hu => by
            rcases mem_insV.1 hu with rfl | hu
            · exact ⟨v, HV.out, by rw [same_b]; simp, CV.out⟩
            · rw [TV.out] at hu
              obtain ⟨v', a, b, d⟩ := T1.out u hu
              exact ⟨v', a, by rw [b]; rfl, d.mono AA.out⟩)
          have T2' := Lib.hid (show ∀ v' ∈ S.vols, (left (.int .i64 v'.id) && !(Lit.int .i64 v'.id).sameKey (.int .i64 v.id)) = false → ∃ u ∈ insV ⟨xb, pbx, v.id, v.size, v.fr, v.pin, pl2⟩ T3.vols, CpV A1 v' u from fun v' hv' hl => by
            by_cases q : v'.id = v.id
            · have := pw_ne HW.out.nd hv' HV.out q
              rw [this]
              exact ⟨_, mem_insV.2 (.inl rfl), CV.out⟩
            · rw [same_b] at hl
              have hl : left (.int .i64 v'.id) = false := by simpa [q] using hl
              obtain ⟨u, a, b⟩ := T2.out v' hv' hl
              exact ⟨u, mem_insV.2 (.inr (by rw [TV.out]; exact a)), b.mono AA.out⟩)
          clear hm2b hIB hTlen h0 hi12 M12 hC12 hfar
          go_wp2_with fail
          go_roundw
          case rel => exact ⟨_, cn2, H', _, ow3, A1, RO12.out, C12.out, HF12.out, T1'.out, T2'.out, J12.out⟩
          case measure => rw [RO12.out.left_eq, RG9.out]; exact HLT.out
        · intro p c kl z1 z2 w11 cn4 hkey hlx hR hat hrg1 hlt hg1 hs1 hen
          obtain ⟨p', hp', rfl, hpw⟩ := Maps.keyOf_int_inv Tryz.underlying3 hkey
          injection hp' with _ hp'
          subst hp'
          obtain ⟨c, rfl, hgc⟩ := step_get (y := (z1, z2)) hR (fun zd => hat zd)
          have HCM := Lib.hid (show (p, c) ∈ v.pl from getL_mem hgc)
          have M11 : Mod (fun i => i = r2) wr w11 := (Mod.refl _ _).grown hg1 (fun k hk _ => by cases hk; rfl)
          have C11 := Lib.hid (CZ.out.mod M11 (fun b q => ⟨by rw [q]; exact HHn.out.2.1, by omega⟩))
          have J11 := Lib.hid (JZ.out.then_ M11 (fun i hi e => by omega))
          have BX11 := Lib.hid (BX.out.mod M11 (fun q => by omega))
          have PX11 := Lib.hid (PX.out.mod M11 (fun q => by omega))
          have RO11 := Lib.hid (RO.out.kept hg1 (fun e => by cases e; omega) (fun e => by cases e; omega))
          have RI11 := Lib.hid hrg1
          have HLN := Lib.hid hlt
          have KF := Lib.hid (show ∀ W, Same w W → ∃ F : Nat → Array Value, (∀ x, F x ≠ #[] → Blk W x (F x)) ∧ F c ≠ #[] ∧ (∀ A' : List (Nat × Nat), (∀ x ∈ A', ∃ v ∈ S.vols, ∃ y ∈ v.pl, y.2 = x.1) → ∀ x ∈ encA A', ∀ c', x.1 = some c' → F c' ≠ #[]) from fun W M => by
            obtain ⟨F, hF, hFv⟩ := (HM.out.same M).blks
            refine ⟨F, hF, hFv v HV.out _ HCM.out, fun A' hA x hx c' e => ?_⟩
            obtain ⟨y, hy, e1, _⟩ := mem_encA.1 (show (x.1, x.2) ∈ encA A' from hx)
            obtain ⟨v', hv', z, hz, e2⟩ := hA y hy
            rw [e1] at e
            cases e
            rw [← e2]; exact hFv v' hv' z hz)
          obtain ⟨i125, hi125, hz125⟩ := info125
          have I125 := Lib.hid hi125
          have Z125 := Lib.hid hz125
          have LKA := Lib.hid (show ∀ (W : World) (A' : List (Nat × Nat)), Same w W → PM W ab (encA A') → (∀ x ∈ A', ∃ v ∈ S.vols, ∃ y ∈ v.pl, y.2 = x.1) → (∀ d, (c, d) ∈ A' → (Instr.lookup 157 (.map (some ab)) (.pointer (some ⟨c, 0, none⟩)) false).run Tryz.prog W = .ok (.pointer (some ⟨d, 0, none⟩)) W) ∧ ((∀ x ∈ A', x.1 ≠ c) → (Instr.lookup 157 (.map (some ab)) (.pointer (some ⟨c, 0, none⟩)) false).run Tryz.prog W = .ok (.pointer none) W) from fun W A' M hP hA => by
            obtain ⟨F, hF, hFc, hFA⟩ := KF.out W M
            have LK := hP.look under157 under123 I125.out Z125.out (Tryz.zeroValue123 W) F hF (q := some c) (fun c' e => by cases e; exact hFc) (hFA A' hA) false
            refine ⟨fun d hd => LK.1 _ (mem_encA.2 ⟨(c, d), hd, rfl, rfl⟩), fun hn => LK.2 (fun x hx e => ?_)⟩
            obtain ⟨y, hy, e1, _⟩ := mem_encA.1 (show (x.1, x.2) ∈ encA A' from hx)
            rw [e1] at e
            exact hn y hy (Option.some.inj e))
          have hsz11 : r2 < w11.heap.size := by have := M11.size; omega
          clear hkey hR hat hrg1 hg1 M11 hgc hlx hlt hs1 hi125 hz125
          (try dsimp only [ptrO, Option.map] at hen ⊢)
          by_cases hkn : ∃ d, (c, d) ∈ A1
          · obtain ⟨d, hd⟩ := hkn
            have HDM := Lib.hid hd
            have hlk := (LKA.out w11 A1 J11.out C11.out.ag C11.out.src).1 d hd
            clear hd
            have SUB := Lib.hid (show ∀ x ∈ A1, x ∈ A1 from (fun _ q => q))
            have MD : Same w11 w11.drew := (Mod.refl _ _).drew
            obtain ⟨wq, hrunq, hiq, hgq⟩ := (PX11.out.mod MD (fun q => q)).put Tryz.underlying3 Tryz.underlying106 PL.out p hpw d
            have MQ : Mod (fun i => i = pbx) w11 wq := (Mod.refl (fun i => i = pbx) w11).drew.grown hgq (fun k hk _ => by cases hk; rfl)
            have CQ := Lib.hid (C11.out.mod MQ (fun b q => ⟨by rw [q]; exact HHn.out.2.2.2, by omega⟩))
            have BQ := Lib.hid (BX11.out.mod MQ (fun q => by omega))
            have PQ := Lib.hid hiq
            have RIQ := Lib.hid ((RI11.out.kept (show w11.grownBy w11.drew none from ⟨MD.os, MD.tape, MD.output, MD.size, fun i hi _ => MD.block i hi (fun q => q)⟩) (by simp) (by simp)).kept hgq (fun e => by cases e; omega) (fun e => by cases e; omega))
            have ROQ := Lib.hid ((RO11.out.kept (show w11.grownBy w11.drew none from ⟨MD.os, MD.tape, MD.output, MD.size, fun i hi _ => MD.block i hi (fun q => q)⟩) (by simp) (by simp)).kept hgq (fun e => by cases e; omega) (fun e => by cases e; omega))
            have JQ := Lib.hid (J11.out.then_ MQ (fun i hi e => by omega))
            have x5 := BX11.out.at_ (i := 5) (.map (some pbx)) rfl
            have P1Q := Lib.hid (show ∀ y ∈ putL p d pl2, ∃ c', (y.1, c') ∈ v.pl ∧ (left2 (.int .i64 y.1) && !(Lit.int .i64 y.1).sameKey (.int .i64 p)) = false ∧ (c', y.2) ∈ A1 from fun y hy => by
              rcases mem_putL.1 hy with rfl | ⟨hy, _⟩
              · exact ⟨c, HCM.out, by rw [same_b]; simp, HDM.out⟩
              · obtain ⟨c', a, b, e⟩ := P1.out y hy
                exact ⟨c', a, by rw [b]; rfl, SUB.out _ e⟩)
            have P2Q := Lib.hid (show ∀ y ∈ v.pl, (left2 (.int .i64 y.1) && !(Lit.int .i64 y.1).sameKey (.int .i64 p)) = false → ∃ d', (y.1, d') ∈ putL p d pl2 ∧ (y.2, d') ∈ A1 from fun y hy hl => by
              by_cases q : y.1 = p
              · have h8 := HRi.out.get hy
                have h9 := HRi.out.get HCM.out
                dsimp only at h9
                rw [q, h9] at h8
                injection h8 with h8
                refine ⟨d, by rw [q]; exact mem_putL.2 (.inl rfl), ?_⟩
                rw [← h8]; exact HDM.out
              · rw [same_b] at hl
                have hl : left2 (.int .i64 y.1) = false := by simpa [q] using hl
                obtain ⟨d', a, b⟩ := P2.out y hy hl
                exact ⟨d', mem_putL.2 (.inr ⟨a, q⟩), SUB.out _ b⟩)
            have hSD := Lib.hid (show (w11.drew).cell? ⟨xb, 5, none⟩ = some (.map (some pbx)) ∧ (Instr.lookup 157 (.map (some ab)) (.pointer (some ⟨c, 0, none⟩)) false).run Tryz.prog w11.drew = .ok (.pointer (some ⟨d, 0, none⟩)) w11.drew from ⟨x5, (LKA.out w11.drew A1 (J11.out.same MD) (C11.out.ag.mod MD (fun q => q)) C11.out.src).1 d HDM.out⟩)
            have hSQ := Lib.hid (show wq.cell? ⟨xb, 5, none⟩ = some (.map (some pbx)) ∧ (Instr.lookup 157 (.map (some ab)) (.pointer (some ⟨c, 0, none⟩)) false).run Tryz.prog wq = .ok (.pointer (some ⟨d, 0, none⟩)) wq from ⟨BQ.out.at_ (i := 5) (.map (some pbx)) rfl, (LKA.out wq A1 JQ.out CQ.out.ag C11.out.src).1 d HDM.out⟩)
            clear MD hiq hgq MQ
            go_wp2_with fail
            go_region_held3 (fun W => W.cell? ⟨xb, 5, none⟩ = some (.map (some pbx)) ∧ (Instr.lookup 157 (.map (some ab)) (.pointer (some ⟨c, 0, none⟩)) false).run Tryz.prog W = .ok (.pointer (some ⟨d, 0, none⟩)) W) (first | exact hSD.out | exact hSQ.out | assumption) ((first | fail))
            go_wp2_with fail
            go_roundw
            case rel => exact ⟨_, cn4, H2, T3, ow3, A1, putL p d pl2, RIQ.out, ROQ.out, CQ.out, TV.out, (fun x hx => SUB.out _ (AA.out x hx)), HHn.out, BQ.out, PQ.out, RS.out.put p d, P1Q.out, P2Q.out, JQ.out⟩
            case measure => rw [RIQ.out.left_eq, RI.out.left_eq]; exact HLN.out
          · have HNN := Lib.hid (show ∀ x ∈ A1, x.1 ≠ c from fun x hx e => hkn ⟨x.2, by rw [← e]; exact hx⟩)
            have hlk := (LKA.out w11 A1 J11.out C11.out.ag C11.out.src).2 HNN.out
            obtain ⟨g, cap, hcb, hcr⟩ := (HM.out.same J11.out).ch HV.out HCM.out
            have c0 := hcb.at_ (i := 0) (.slice (some ⟨g, 0, none⟩) S.k cap) rfl
            have c1 := hcb.at_ (i := 1) (.int .i64 (ow c)) rfl
            have hsl := (HG.out.secs v HV.out _ HCM.out).1
            dsimp only at hsl c0 c1 hcr
            have hk18 := HG.out.k1
            have hk8 := HG.out.k8
            have HSL := Lib.hid hsl
            have HCl := Lib.hid (show ∀ W, Same w11 W → Calls Tryz.prog 70 #[.slice (some ⟨g, 0, none⟩) S.k cap] W fun e w' => ∃ g' cap', e = .returned (.slice (some ⟨g', 0, none⟩) S.k cap') ∧ RowV w' g' (S.sec c).length (txF (S.sec c)) ∧ W.heap.size ≤ g' ∧ Same W w' from fun W M => by
              have := clone70 W g cap (S.sec c) (by omega) (by omega) (hcr.mod M (fun q => q))
              rw [hsl] at this ⊢
              exact this)
            have HKc := Lib.hid (show ∀ W, Same w11 W → (W.cell? ⟨c, 0, none⟩ = some (.slice (some ⟨g, 0, none⟩) S.k cap) ∧ W.cell? ⟨c, 1, none⟩ = some (.int .i64 (ow c))) from fun W M => ⟨(M.cell hcb.lt (fun q => q) 0).trans c0, (M.cell hcb.lt (fun q => q) 1).trans c1⟩)
            have hcB : c < B := by
              obtain ⟨_, _, hq, _⟩ := HM.out.ch HV.out HCM.out
              have := hq.lt
              dsimp only at this
              omega
            have HKm := Lib.hid (show ∀ W, Mod (fun i => i = ab) w11 W → (W.cell? ⟨c, 0, none⟩ = some (.slice (some ⟨g, 0, none⟩) S.k cap) ∧ W.cell? ⟨c, 1, none⟩ = some (.int .i64 (ow c))) from fun W M => ⟨(M.cell hcb.lt (fun q => by dsimp only at q; omega) 0).trans c0, (M.cell hcb.lt (fun q => by dsimp only at q; omega) 1).trans c1⟩)
            have hSc := HKc.out w11 (Mod.refl _ _)
            clear hcb hcr hsl hkn c0 c1 hk18 hk8
            go_wp2_with fail
            go_region_held3 (fun W => W.cell? ⟨c, 0, none⟩ = some (.slice (some ⟨g, 0, none⟩) S.k cap) ∧ W.cell? ⟨c, 1, none⟩ = some (.int .i64 (ow c))) (first | exact hSc | assumption | exact HKc.out _ ((Mod.refl _ _).drew) | exact HKc.out _ JA.out | exact HKc.out _ J13.out | exact HKm.out _ J14h.out) ((
              first
              | (go_at_call 70; refine (HCl.out _ ((Mod.refl _ _).drew)).mono ?_; rintro e w12 ⟨g9, c9, rfl, hrow9, hge9, MA⟩;
                 have JA := Lib.hid (show Same w11 w12 from ((Mod.refl _ w11).drew).same MA);
                 have HR9 := Lib.hid hrow9;
                 have HG9 := Lib.hid (show w11.heap.size ≤ g9 from hge9);
                 obtain ⟨d, hdd⟩ : ∃ z, w12.heap.size = z := ⟨_, rfl⟩;
                 obtain ⟨w13, hw13⟩ : ∃ z, w12.alloc (.cells #[.slice (some ⟨g9, 0, none⟩) S.k c9, .int .i64 (ow c)] 125) = z := ⟨_, rfl⟩;
                 have N13 := Lib.hid (show Same w12 w13 by rw [← hw13]; exact (Mod.refl _ _).alloc _);
                 have BD := Lib.hid (show Blk w13 d #[.slice (some ⟨g9, 0, none⟩) S.k c9, .int .i64 (ow c)] by rw [← hw13, ← hdd]; exact Blk.new w12 _ 125);
                 have J13 := Lib.hid (JA.out.same N13.out);
                 obtain ⟨w14, hrun14, hpm14, M14⟩ : ∃ w', (Instr.mapUpdate 157 (.map (some ab)) (.pointer (some ⟨c, 0, none⟩)) (.pointer (some ⟨d, 0, none⟩))).run Tryz.prog w13 = .ok () w' ∧ PM w' ab (encA A1 ++ [(some c, bp d)]) ∧ Mod (fun i => i = ab) w13 w' := (by
                   obtain ⟨F, hF, hFc, hFA⟩ := KF.out w13 (J11.out.same J13.out)
                   exact (C11.out.ag.mod J13.out (fun q => q)).put_new under157 under123 I125.out Z125.out F hF (q := some c) (fun c' e => by cases e; exact hFc) (hFA A1 C11.out.src) (C11.out.not_c HNN.out) (bp d));
                 have PM14 := Lib.hid hpm14;
                 have MM14 := Lib.hid M14;
                 have J14h := Lib.hid (show Mod (fun i => i = ab) w11 w14 from (J13.out.mono (fun _ _ q => q.elim)).trans M14);
                 clear MA hrow9 hge9 hpm14 M14)))
            all_goals
              obtain ⟨H4, hC14, hfar4, -⟩ := C11.out.chunk (w' := w14) J13.out (HR9.out.mod N13.out (fun q => q)) BD.out HG9.out (by rw [← hdd]; exact JA.out.size) (by have := HR9.out.lt; omega) (by have := J11.out.size; omega) HNN.out ⟨v, HV.out, (p, c), HCM.out, rfl⟩ MM14.out PM14.out
              have C14 := Lib.hid hC14
              have HH4 := Lib.hid (show H4 r = .no ∧ H4 r2 = .no ∧ H4 xb = .no ∧ H4 pbx = .no from ⟨by rw [hfar4 r (by omega)]; exact HHn.out.1, by rw [hfar4 r2 (by omega)]; exact HHn.out.2.1, by rw [hfar4 xb (by omega)]; exact HHn.out.2.2.1, by rw [hfar4 pbx (by omega)]; exact HHn.out.2.2.2⟩)
              have J14 := Lib.hid (J11.out.then_ J14h.out (fun i hi e => by omega))
              have BX14 := Lib.hid (BX11.out.mod J14h.out (fun q => by omega))
              have PX14 := Lib.hid (PX11.out.mod J14h.out (fun q => by omega))
              have RO14 := Lib.hid (RO11.out.kept (grown_mod J14h.out) (fun e => by cases e; omega) (fun e => by cases e; omega))
              have RI14 := Lib.hid (RI11.out.kept (grown_mod J14h.out) (fun e => by cases e; omega) (fun e => by cases e; omega))
              clear hC14 hfar4 JA J13 J14h N13 BD HR9 HG9 PM14 MM14 hw13 hlk
              have SUB := Lib.hid (show ∀ x ∈ A1, x ∈ (A1 ++ [(c, d)]) from (fun _ q => List.mem_append_left _ q))
              have MD : Same w14 w14.drew := (Mod.refl _ _).drew
              obtain ⟨wq, hrunq, hiq, hgq⟩ := (PX14.out.mod MD (fun q => q)).put Tryz.underlying3 Tryz.underlying106 PL.out p hpw d
              have MQ : Mod (fun i => i = pbx) w14 wq := (Mod.refl (fun i => i = pbx) w14).drew.grown hgq (fun k hk _ => by cases hk; rfl)
              have CQ := Lib.hid (C14.out.mod MQ (fun b q => ⟨by rw [q]; exact HH4.out.2.2.2, by omega⟩))
              have BQ := Lib.hid (BX14.out.mod MQ (fun q => by omega))
              have PQ := Lib.hid hiq
              have RIQ := Lib.hid ((RI14.out.kept (show w14.grownBy w14.drew none from ⟨MD.os, MD.tape, MD.output, MD.size, fun i hi _ => MD.block i hi (fun q => q)⟩) (by simp) (by simp)).kept hgq (fun e => by cases e; omega) (fun e => by cases e; omega))
              have ROQ := Lib.hid ((RO14.out.kept (show w14.grownBy w14.drew none from ⟨MD.os, MD.tape, MD.output, MD.size, fun i hi _ => MD.block i hi (fun q => q)⟩) (by simp) (by simp)).kept hgq (fun e => by cases e; omega) (fun e => by cases e; omega))
              have JQ := Lib.hid (J14.out.then_ MQ (fun i hi e => by omega))
              have x5 := BX14.out.at_ (i := 5) (.map (some pbx)) rfl
              have P1Q := Lib.hid (show ∀ y ∈ putL p d pl2, ∃ c', (y.1, c') ∈ v.pl ∧ (left2 (.int .i64 y.1) && !(Lit.int .i64 y.1).sameKey (.int .i64 p)) = false ∧ (c', y.2) ∈ (A1 ++ [(c, d)]) from fun y hy => by
                rcases mem_putL.1 hy with rfl | ⟨hy, _⟩
                · exact ⟨c, HCM.out, by rw [same_b]; simp, (List.mem_append_right _ (by simp))⟩
                · obtain ⟨c', a, b, e⟩ := P1.out y hy
                  exact ⟨c', a, by rw [b]; rfl, SUB.out _ e⟩)
              have P2Q := Lib.hid (show ∀ y ∈ v.pl, (left2 (.int .i64 y.1) && !(Lit.int .i64 y.1).sameKey (.int .i64 p)) = false → ∃ d', (y.1, d') ∈ putL p d pl2 ∧ (y.2, d') ∈ (A1 ++ [(c, d)]) from fun y hy hl => by
                by_cases q : y.1 = p
                · have h8 := HRi.out.get hy
                  have h9 := HRi.out.get HCM.out
                  dsimp only at h9
                  rw [q, h9] at h8
                  injection h8 with h8
                  refine ⟨d, by rw [q]; exact mem_putL.2 (.inl rfl), ?_⟩
                  rw [← h8]; exact (List.mem_append_right _ (by simp))
                · rw [same_b] at hl
                  have hl : left2 (.int .i64 y.1) = false := by simpa [q] using hl
                  obtain ⟨d', a, b⟩ := P2.out y hy hl
                  exact ⟨d', mem_putL.2 (.inr ⟨a, q⟩), SUB.out _ b⟩)
              have hSD := Lib.hid (show (w14.drew).cell? ⟨xb, 5, none⟩ = some (.map (some pbx)) ∧ (Instr.lookup 157 (.map (some ab)) (.pointer (some ⟨c, 0, none⟩)) false).run Tryz.prog w14.drew = .ok (.pointer (some ⟨d, 0, none⟩)) w14.drew from ⟨x5, (LKA.out w14.drew (A1 ++ [(c, d)]) (J14.out.same MD) (C14.out.ag.mod MD (fun q => q)) C14.out.src).1 d (List.mem_append_right _ (by simp))⟩)
              have hSQ := Lib.hid (show wq.cell? ⟨xb, 5, none⟩ = some (.map (some pbx)) ∧ (Instr.lookup 157 (.map (some ab)) (.pointer (some ⟨c, 0, none⟩)) false).run Tryz.prog wq = .ok (.pointer (some ⟨d, 0, none⟩)) wq from ⟨BQ.out.at_ (i := 5) (.map (some pbx)) rfl, (LKA.out wq (A1 ++ [(c, d)]) JQ.out CQ.out.ag C14.out.src).1 d (List.mem_append_right _ (by simp))⟩)
              clear MD hiq hgq MQ
              go_wp2_with fail
              go_region_held3 (fun W => W.cell? ⟨xb, 5, none⟩ = some (.map (some pbx)) ∧ (Instr.lookup 157 (.map (some ab)) (.pointer (some ⟨c, 0, none⟩)) false).run Tryz.prog W = .ok (.pointer (some ⟨d, 0, none⟩)) W) (first | exact hSD.out | exact hSQ.out | assumption) ((first | fail))
              go_wp2_with fail
              go_roundw
              case rel => exact ⟨_, cn4, H4, { T3 with sec := upd T3.sec d (S.sec c) }, (upd ow3 d (ow c)), (A1 ++ [(c, d)]), putL p d pl2, RIQ.out, ROQ.out, CQ.out, TV.out, (fun x hx => SUB.out _ (AA.out x hx)), HH4.out, BQ.out, PQ.out, RS.out.put p d, P1Q.out, P2Q.out, JQ.out⟩
              case measure => rw [RIQ.out.left_eq, RI.out.left_eq]; exact HLN.out
end
end Go.Proofs.YtlcepoagpocadaaGreatDoor
