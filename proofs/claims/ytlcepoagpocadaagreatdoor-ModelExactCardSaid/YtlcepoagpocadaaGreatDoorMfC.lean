import Derived.Test.YtlcepoagpocadaaGreatDoorMeZ
import Derived.Test.YtlcepoagpocadaaGreatDoorOrdU
import Derived.Test.YtlcepoagpocadaaGreatDoorMeJ
import Derived.Laws.BytesArg
import Derived.Laws.OwnMore
import Derived.Test.YtlcepoagpocadaaGreatDoorMfB
set_option linter.unusedSimpArgs false
set_option linter.unusedVariables false
set_option maxRecDepth 100000
/- An order of any kind is done; what it wants. -/
namespace Go.Proofs.YtlcepoagpocadaaGreatDoor
open Go Go.RowKit
section
variable {K : Nat → Prop} {w : World} {m : Nat} {S : MS}
theorem I64.ofJ {n : Int} (h : J64 n) : I64 n := I64.of h
/-- What an answer tells of the volumes. -/
def TellV (w w' : World) (S : MS) (tells : Bool) (u : Value) : Prop :=
  if tells = true then w'.ownsRow w.heap.size 47 5 u S.vols.length (S.vols.flatMap infoC) ∧ (u = .slice none 0 0 ↔ S.vols = []) else u = .slice none 0 0
theorem tell_no (w w' : World) (S : MS) : TellV w w' S false (.slice none 0 0) := rfl
theorem do_any (h : Md Tryz.prog K w m S) (G : Good S) (W : Wf S) (o : OW) (hf : o.form) (hL : LibOK w) :
    Calls Tryz.prog 20 #[bp m, ordW o] w fun e w' => ∃ er d ua un uc S' tells, e = .returned (.agg #[.int .i64 er, .string ⟨d.toArray⟩, .slice ua un uc]) ∧ DoR S o.k o.ns o.ts er d tells S' ∧ Md Tryz.prog K w' m S' ∧ Mod (fun i => ¬ K i) w w' ∧ TellV w w' S tells (.slice ua un uc) := by
  by_cases hfit : o.fits = true
  · have HT : ∀ w', Same w w' → Calls Tryz.prog 51 #[ordW o] w' fun e w'' => ∃ s, e = .returned (.tuple #[.string s, .int .i64 0]) ∧ Same w' w'' :=
      fun w' M => (text_ok o hf hfit w' (hL.same M).tab).mono (fun e w'' q => ⟨_, q.1, q.2⟩)
    have hfq : ¬ (o.ts.all (fun t => decide (t.length ≤ 512)) = false) := by unfold OW.fits at hfit; rw [hfit]; decide
    obtain ⟨k, ns, ts⟩ := o
    obtain ⟨h15, hnn, hnd, hi⟩ := hf
    dsimp only at h15 hnn hnd hi hfq
    rcases kinds15 h15 with rfl | rfl | rfl | rfl | rfl | rfl | rfl | rfl | rfl | rfl | rfl | rfl | rfl | rfl | rfl
    · obtain ⟨a, b, rfl⟩ := len2 hnn
      obtain rfl := len0 hnd
      have ha := I64.ofJ (hi a (by simp))
      have hb := I64.ofJ (hi b (by simp))
      refine (do_create h G W a b ha hb HT).mono ?_
      rintro e w2 ⟨bk, pb, he, hm, hM⟩
      exact ⟨_, [], _, _, _, _, false, he, (by unfold DoR; rw [if_neg hfq]; exact ⟨⟨bk, pb, rfl⟩, rfl, rfl⟩), hm, hM, tell_no _ _ _⟩
    · obtain ⟨a, rfl⟩ := len1 hnn
      obtain rfl := len0 hnd
      have ha := I64.ofJ (hi a (by simp))
      refine (do_delete h G W a ha HT).mono ?_
      rintro e w2 ⟨he, hm, hM⟩
      exact ⟨_, [], _, _, _, _, false, he, (by unfold DoR; rw [if_neg hfq]; exact ⟨rfl, rfl, rfl⟩), hm, hM, tell_no _ _ _⟩
    · obtain ⟨a, b, rfl⟩ := len2 hnn
      obtain rfl := len0 hnd
      have ha := I64.ofJ (hi a (by simp))
      have hb := I64.ofJ (hi b (by simp))
      refine (do_snap h G W a b ha hb HT).mono ?_
      rintro e w2 ⟨bk, pb, he, hm, hM⟩
      exact ⟨_, [], _, _, _, _, false, he, (by unfold DoR; rw [if_neg hfq]; exact ⟨⟨bk, pb, rfl⟩, rfl, rfl⟩), hm, hM, tell_no _ _ _⟩
    · obtain ⟨a, b, rfl⟩ := len2 hnn
      obtain rfl := len0 hnd
      have ha := I64.ofJ (hi a (by simp))
      have hb := I64.ofJ (hi b (by simp))
      refine (do_resize h G W a b ha hb HT).mono ?_
      rintro e w2 ⟨he, hm, hM⟩
      exact ⟨_, [], _, _, _, _, false, he, (by unfold DoR; rw [if_neg hfq]; exact ⟨rfl, rfl, rfl⟩), hm, hM, tell_no _ _ _⟩
    · obtain ⟨a, rfl⟩ := len1 hnn
      obtain rfl := len0 hnd
      have ha := I64.ofJ (hi a (by simp))
      refine (do_pin h G W a ha HT).mono ?_
      rintro e w2 ⟨he, hm, hM⟩
      exact ⟨_, [], _, _, _, _, false, he, (by unfold DoR; rw [if_neg hfq]; exact ⟨rfl, rfl, rfl⟩), hm, hM, tell_no _ _ _⟩
    · obtain ⟨a, rfl⟩ := len1 hnn
      obtain rfl := len0 hnd
      have ha := I64.ofJ (hi a (by simp))
      refine (do_free h G W a ha HT).mono ?_
      rintro e w2 ⟨he, hm, hM⟩
      exact ⟨_, [], _, _, _, _, false, he, (by unfold DoR; rw [if_neg hfq]; exact ⟨rfl, rfl, rfl⟩), hm, hM, tell_no _ _ _⟩
    · obtain ⟨a, b, c, rfl⟩ := len3 hnn
      obtain rfl := len0 hnd
      have ha := I64.ofJ (hi a (by simp))
      have hb := I64.ofJ (hi b (by simp))
      have hc := I64.ofJ (hi c (by simp))
      refine (do_read h G W a b c ha hb hc HT).mono ?_
      rintro e w2 ⟨he, hM⟩
      exact ⟨_, _, _, _, _, _, false, he, (by unfold DoR; rw [if_neg hfq]; exact ⟨rfl, rfl, rfl, rfl⟩), h.same hM, hM.mono (fun _ _ q => q.elim), tell_no _ _ _⟩
    · obtain ⟨a, b, rfl⟩ := len2 hnn
      obtain ⟨t, rfl⟩ := len1 hnd
      have ha := I64.ofJ (hi a (by simp))
      have hb := I64.ofJ (hi b (by simp))
      have ht : t.length ≤ 512 := by simpa using hfq
      refine (do_write h G W a b t ha hb (by omega) HT).mono ?_
      rintro e w2 ⟨S2, he, hw, hm, hM⟩
      exact ⟨_, [], _, _, _, S2, false, he, (by unfold DoR; rw [if_neg hfq]; exact ⟨rfl, rfl, rfl, hw⟩), hm, hM, tell_no _ _ _⟩
    · obtain ⟨a, b, c, rfl⟩ := len3 hnn
      obtain rfl := len0 hnd
      have ha := I64.ofJ (hi a (by simp))
      have hb := I64.ofJ (hi b (by simp))
      have hc := I64.ofJ (hi c (by simp))
      refine (do_discard h G W a b c ha hb hc HT).mono ?_
      rintro e w2 ⟨S2, he, hw, hm, hM⟩
      exact ⟨_, [], _, _, _, S2, false, he, (by unfold DoR; rw [if_neg hfq]; exact ⟨rfl, rfl, rfl, hw⟩), hm, hM, tell_no _ _ _⟩
    · obtain rfl := len0 hnn
      obtain rfl := len0 hnd
      refine (do_other w m (kT 9) _ (by decide) HT).mono ?_
      rintro e w2 ⟨he, hM⟩
      exact ⟨_, [], _, _, _, _, false, he, (by unfold DoR; rw [if_neg hfq]; exact ⟨rfl, rfl, rfl, rfl⟩), h.same hM, hM.mono (fun _ _ q => q.elim), tell_no _ _ _⟩
    · obtain ⟨a, rfl⟩ := len1 hnn
      obtain rfl := len0 hnd
      have ha := I64.ofJ (hi a (by simp))
      refine (do_other w m (kT 10) _ (by decide) HT).mono ?_
      rintro e w2 ⟨he, hM⟩
      exact ⟨_, [], _, _, _, _, false, he, (by unfold DoR; rw [if_neg hfq]; exact ⟨rfl, rfl, rfl, rfl⟩), h.same hM, hM.mono (fun _ _ q => q.elim), tell_no _ _ _⟩
    · obtain rfl := len0 hnn
      obtain rfl := len0 hnd
      refine (do_other w m (kT 11) _ (by decide) HT).mono ?_
      rintro e w2 ⟨he, hM⟩
      exact ⟨_, [], _, _, _, _, false, he, (by unfold DoR; rw [if_neg hfq]; exact ⟨rfl, rfl, rfl, rfl⟩), h.same hM, hM.mono (fun _ _ q => q.elim), tell_no _ _ _⟩
    · obtain rfl := len0 hnn
      obtain rfl := len0 hnd
      refine (do_status h G W HT).mono ?_
      rintro e w2 ⟨u, he, hu, hu2, hM⟩
      obtain ⟨va, vc, rfl⟩ := owns_slice hu
      exact ⟨_, [], _, _, _, _, true, he, (by unfold DoR; rw [if_neg hfq]; exact ⟨rfl, rfl, rfl, rfl⟩), h.same hM, hM.mono (fun _ _ q => q.elim), ⟨hu, hu2⟩⟩
    · obtain ⟨a, rfl⟩ := len1 hnn
      obtain rfl := len0 hnd
      have ha := I64.ofJ (hi a (by simp))
      refine (do_other w m (kT 13) _ (by decide) HT).mono ?_
      rintro e w2 ⟨he, hM⟩
      exact ⟨_, [], _, _, _, _, false, he, (by unfold DoR; rw [if_neg hfq]; exact ⟨rfl, rfl, rfl, rfl⟩), h.same hM, hM.mono (fun _ _ q => q.elim), tell_no _ _ _⟩
    · obtain rfl := len0 hnn
      refine (do_other w m (kT 14) _ (by decide) HT).mono ?_
      rintro e w2 ⟨he, hM⟩
      exact ⟨_, [], _, _, _, _, false, he, (by unfold DoR; rw [if_neg hfq]; exact ⟨rfl, rfl, rfl, rfl⟩), h.same hM, hM.mono (fun _ _ q => q.elim), tell_no _ _ _⟩
  · have hfq : o.fits = false := by simpa using hfit
    have HT : ∀ w', Same w w' → Calls Tryz.prog 51 #[ordW o] w' fun e w'' => e = .returned (.tuple #[.string ⟨#[]⟩, .int .i64 1]) ∧ Same w' w'' :=
      fun w' M => text_bad o hf hfq w'
    refine (do_bad w m (kT o.k) _ HT).mono ?_
    rintro e w2 ⟨he, hM⟩
    refine ⟨_, [], _, _, _, S, false, he, ?_, h.same hM, hM.mono (fun _ _ q => q.elim), tell_no _ _ _⟩
    unfold OW.fits at hfq
    unfold DoR
    rw [if_pos hfq]
    exact ⟨rfl, rfl, rfl, rfl⟩
theorem wants_any (h : Md Tryz.prog K w m S) (G : Good S) (W : Wf S) (o : OW) (hf : o.form) (hl : ∀ t ∈ o.ts, t.length ≤ 1000000) :
    Calls Tryz.prog 18 #[bp m, ordW o] w fun e w' => e = .returned (.int .i64 (wantS S o.k o.ns o.ts : Int)) ∧ Same w w' := by
  obtain ⟨k, ns, ts⟩ := o
  obtain ⟨h15, hnn, hnd, hi⟩ := hf
  dsimp only at h15 hnn hnd hi hl
  rcases kinds15 h15 with rfl | rfl | rfl | rfl | rfl | rfl | rfl | rfl | rfl | rfl | rfl | rfl | rfl | rfl | rfl
  · exact wants_other h (kT 0) _ (by decide) (by decide)
  · exact wants_other h (kT 1) _ (by decide) (by decide)
  · exact wants_other h (kT 2) _ (by decide) (by decide)
  · exact wants_other h (kT 3) _ (by decide) (by decide)
  · exact wants_other h (kT 4) _ (by decide) (by decide)
  · exact wants_other h (kT 5) _ (by decide) (by decide)
  · exact wants_other h (kT 6) _ (by decide) (by decide)
  · obtain ⟨a, b, rfl⟩ := len2 hnn
    obtain ⟨t, rfl⟩ := len1 hnd
    have ha := I64.ofJ (hi a (by simp))
    have hb := I64.ofJ (hi b (by simp))
    exact wants_write h G W a b t ha hb (hl t (by simp))
  · obtain ⟨a, b, c, rfl⟩ := len3 hnn
    obtain rfl := len0 hnd
    have ha := I64.ofJ (hi a (by simp))
    have hb := I64.ofJ (hi b (by simp))
    have hc := I64.ofJ (hi c (by simp))
    exact wants_discard h G W a b c ha hb hc
  · exact wants_other h (kT 9) _ (by decide) (by decide)
  · exact wants_other h (kT 10) _ (by decide) (by decide)
  · exact wants_other h (kT 11) _ (by decide) (by decide)
  · exact wants_other h (kT 12) _ (by decide) (by decide)
  · exact wants_other h (kT 13) _ (by decide) (by decide)
  · exact wants_other h (kT 14) _ (by decide) (by decide)
end
end Go.Proofs.YtlcepoagpocadaaGreatDoor
set_option maxRecDepth 100000
/- A sector of a byte. -/
namespace Go.Proofs.YtlcepoagpocadaaGreatDoor
open Go Go.RowKit
/-- n bytes of one kind. -/
def fillF (b : Nat) (j : Nat) (i : Nat) : Value := if i < j then .int .u8 (b : Int) else .int .u8 0
theorem infoU8 : (Tryz.prog.info? 5).map (fun i => (i.zero, i.size, i.bytes)) = some (some (.int .u8 0), 1, 1) := by kernel_rfl
theorem make22 (n : Nat) (hn : n ≤ 100000) (h0 : 0 < n) (w : World) : ∃ w', (Instr.makeSlice 22 (.int .i64 (n : Int)) (.int .i64 (n : Int))).run Tryz.prog w = .ok (.slice (some ⟨w.heap.size, 0, none⟩) n n) w' ∧ RowV w' w.heap.size n (fun _ => .int .u8 0) ∧ Same w w' := by
  obtain ⟨i0, hi, hz0, hz1, hz2⟩ := info_parts infoU8
  obtain ⟨w', hr, hown, hg⟩ := run_makeSlice_full (P := Tryz.prog) w w.heap.size 22 5 i0 (.int .u8 0) 1 Tryz.underlying22 hi hz0 hz1 .i64 .i64 n (by omega) (by rw [hz2]; omega) (by unfold maxLen; omega) (Nat.le_refl _)
  refine ⟨w', hr, ?_, (Mod.refl _ _).grown hg (fun k hk => by cases hk)⟩
  rw [show (Value.int IntKind.u8 0).cells = #[Value.int IntKind.u8 0] from rfl, toList_madeCells_one] at hown
  obtain ⟨g, cap, hv, hg0, hgc, hrow⟩ := RowV.of_owns hown h0
  injection hv with ha _ _
  injection ha with ha
  injection ha with ha _
  subst ha
  rw [Nat.mul_one] at hrow
  refine hrow.congr fun i hi => ?_
  rw [List.getD_eq_getElem?_getD, List.getElem?_replicate, if_pos (by omega)]; rfl
theorem conv22 (n g b : Nat) (hb : b < 256) (w : World) (hr : RowV w g n (fun _ => .int .u8 (b : Int))) : (convert 22 9 (.slice (some ⟨g, 0, none⟩) n n)).run Tryz.prog w = .ok (strV (List.replicate n (UInt8.ofNat b))) w := by
  have e : Value.string (strOfNums (List.replicate n b)) = strV (List.replicate n (UInt8.ofNat b)) := by
    unfold strV strOfNums; simp
  rw [← e]
  refine run_convert_bytes_arg (P := Tryz.prog) _ 22 5 Tryz.underlying22 Tryz.underlying5 g 0 n n _ (by simp) ?_ 9 Tryz.underlying9
  intro i hi
  have key := hr.cell i (by simpa using hi)
  rw [Nat.zero_add, key]
  have : i < n := by simpa using hi
  simp [this]
set_option maxHeartbeats 4000000 in
theorem fill_one (w : World) (b : Nat) (hb : b < 256) : Calls Tryz.prog 28 #[.int .u8 (b : Int), .int .i64 1] w fun e w' => e = .returned (strV (List.replicate 16 (UInt8.ofNat b))) ∧ Same w w' := by
  refine opq fun R HR => ?_
  obtain ⟨w1, hmk, hrow, M⟩ : ∃ w', (Instr.makeSlice 22 (.int .i64 16) (.int .i64 16)).run Tryz.prog w = .ok (.slice (some ⟨w.heap.size, 0, none⟩) 16 16) w' ∧ RowV w' w.heap.size 16 (fun _ => .int .u8 0) ∧ Same w w' := make22 16 (by omega) (by omega) w
  have K1 := Lib.hid (hrow.congr (f' := fillF b 0) (fun i hi => rfl))
  have M1 := Lib.hid M
  have hbw : IntKind.u8.wrap (b : Int) = b := by unfold IntKind.wrap; simp [IntKind.signed, IntKind.bits]; omega
  clear hrow M
  go_enter Tryz.func28, Tryz.ntmps28
  go_wp2_with fail
  go_loopw [6] (fun i wr => ∃ j : Nat, j ≤ 16 ∧ i = .int .i64 j ∧ RowV wr w.heap.size 16 (fillF b j) ∧ Same w wr) (fun i _ => 16 - (intOf i).toNat)
  case atStart => exact ⟨0, by omega, rfl, K1.out, M1.out⟩
  case round =>
    obtain ⟨j, hj, rfl, hro, hM⟩ := hrel
    have K := Lib.hid hro
    have J := Lib.hid hM
    have hl := hro.lt
    clear hro hM
    by_cases hlt : j < 16
    · have hq : ((j : Int) / 16) = 0 := by omega
      have hq2 : (j : Int).tdiv 16 = 0 := by rw [Int.tdiv_eq_ediv_of_nonneg (by omega)]; exact hq
      have fr := fun i => K.out.free i
      have cj := K.out.cell j hlt
      go_wp2_with fail
      go_roundw
      case rel =>
        refine ⟨j + 1, by omega, by go_num, (K.out.set j hlt (.int .u8 (b : Int))).congr (fun i hi => ?_), J.out.setCell (p := ⟨w.heap.size, j, none⟩) (fun q => by simp at q) _⟩
        unfold upd fillF
        by_cases q : i = j
        · rw [if_pos q, if_pos (by omega)]
        · rw [if_neg q]
          by_cases r : i < j
          · rw [if_pos r, if_pos (by omega)]
          · rw [if_neg r, if_neg (by omega)]
      case measure => simp [intOf]; omega
    · obtain rfl : j = 16 := by omega
      have hcv := conv22 16 w.heap.size b hb wr (K.out.congr (fun i hi => by unfold fillF; rw [if_pos hi]))
      go_wp2
      exact HR.out _ _ ⟨rfl, J.out⟩
end Go.Proofs.YtlcepoagpocadaaGreatDoor
set_option maxRecDepth 100000
/- A sector of a byte; what a model tells, with its counts; an order that is none. -/
namespace Go.Proofs.YtlcepoagpocadaaGreatDoor
open Go Go.RowKit
section
variable {K : Nat → Prop} {w : World} {m : Nat} {S : MS}
theorem count_md (h : Md Tryz.prog K w m S) (G : Good S) (W : Wf S) : Calls Tryz.prog 24 #[bp m] w fun e w' => e = .returned (.int .i64 (countS S : Int)) ∧ Same w w' := by
  obtain ⟨ow, hm, _⟩ := h
  exact count_any hm W G
theorem dump_md (h : Md Tryz.prog K w m S) (G : Good S) (W : Wf S) :
    Calls Tryz.prog 12 #[bp m] w fun e w' => ∃ v, e = .returned v ∧ w'.ownsRow w.heap.size 9 1 v S.vols.length ((dumpS S).map strV) ∧ (v = .slice none 0 0 ↔ S.vols = []) ∧ Same w w' := by
  obtain ⟨ow, hm, _⟩ := h
  exact dump_any hm G W
theorem volumes_md (h : Md Tryz.prog K w m S) (G : Good S) (W : Wf S) :
    Calls Tryz.prog 23 #[bp m] w fun e w' => ∃ v, e = .returned v ∧ w'.ownsRow w.heap.size 47 5 v S.vols.length (S.vols.flatMap infoC) ∧ (v = .slice none 0 0 ↔ S.vols = []) ∧ Same w w' := by
  obtain ⟨ow, hm, _⟩ := h
  exact volumes_any hm W (vols_len G W) (fun v hv => I64.of (by have := G.ids v hv; omega))
end
set_option maxHeartbeats 4000000 in
/-- No order at all. -/
theorem do_none (w : World) (m : Nat) :
    Calls Tryz.prog 20 #[bp m, .nilIface] w fun e w' => e = .returned (.agg #[.int .i64 1, .string ⟨#[]⟩, .slice none 0 0]) ∧ Same w w' := by
  refine opq fun R HR => ?_
  have HTX := Lib.hid (fun w => text_nil w)
  obtain ⟨W1, hW1⟩ : ∃ z, w.alloc (.cells #[.int .i64 0, .string ⟨#[]⟩, .slice none 0 0] 31) = z := ⟨_, rfl⟩
  have J1 := Lib.hid (show Same w W1 by rw [← hW1]; exact (Mod.refl _ _).alloc _)
  have B1 := Lib.hid (show Blk W1 w.heap.size #[.int .i64 0, .string ⟨#[]⟩, .slice none 0 0] by rw [← hW1]; exact Blk.new w _ 31)
  go_enter Tryz.func20, Tryz.ntmps20
  go_wp2_with fail
  refine (HTX.out W1).mono ?_
  rintro e w2 ⟨rfl, M⟩
  have J2 := Lib.hid (J1.out.same M)
  have B2 := Lib.hid (B1.out.mod M (fun q => q))
  have hs2 : w.heap.size < w2.heap.size := B2.out.lt
  clear M hW1 B1 J1
  have fA := fun i => B2.out.free i
  have a0 := B2.out.at_ (i := 0) (.int .i64 0) rfl
  have a1 := B2.out.at_ (i := 1) (.string ⟨#[]⟩) rfl
  have a2 := B2.out.at_ (i := 2) (.slice none 0 0) rfl
  go_wp2
  have BF := ((B2.out.set 0 (.int .i64 1)).set 1 (.string ⟨#[]⟩)).set 2 (.slice none 0 0)
  have g0 := BF.at_ (i := 0) (.int .i64 1) rfl
  have g1 := BF.at_ (i := 1) (.string ⟨#[]⟩) rfl
  have g2 := BF.at_ (i := 2) (.slice none 0 0) rfl
  have MF := Lib.hid (((J2.out.setCell (p := ⟨w.heap.size, 0, none⟩) (fun q => by simp at q) (.int .i64 1)).setCell (p := ⟨w.heap.size, 1, none⟩) (fun q => by simp at q) (.string ⟨#[]⟩)).setCell (p := ⟨w.heap.size, 2, none⟩) (fun q => by simp at q) (.slice none 0 0))
  clear BF
  generalize ((w2.setCell ⟨w.heap.size, 0, none⟩ (.int .i64 1)).setCell ⟨w.heap.size, 1, none⟩ (.string ⟨#[]⟩)).setCell ⟨w.heap.size, 2, none⟩ (.slice none 0 0) = wf at *
  exact bodyPost_ret (v := .agg #[.int .i64 1, .string ⟨#[]⟩, .slice none 0 0]) (by simp [results, Tryz.results20, go_sem, g0, g1, g2]) rfl (HR.out _ _ ⟨rfl, MF.out⟩)
end Go.Proofs.YtlcepoagpocadaaGreatDoor
