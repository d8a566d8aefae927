import Derived.Test.YtlcepoagpocadaaGreatDoorXqG
import Derived.Test.YtlcepoagpocadaaGreatDoorXqA
import Derived.Test.YtlcepoagpocadaaGreatDoorXpR
import Derived.Test.YtlcepoagpocadaaGreatDoorMfF
import Derived.Test.YtlcepoagpocadaaGreatDoorMfD
import Derived.BigRegion
set_option linter.unusedSimpArgs false
set_option linter.unusedVariables false
set_option maxRecDepth 100000
/- The program's model and the document's answer alike. -/
namespace Go.Proofs.YtlcepoagpocadaaGreatDoor
open Go Go.RowKit
theorem Md.moreX {P : Program} {K T : Nat → Prop} {w w' : World} {m : Nat} {S : MS} (h : Md P K w m S) (M : Mod T w w') (hT : ∀ b, b < w.heap.size → T b → K b) : Md P (fun i => K i ∨ (w.heap.size ≤ i ∧ i < w'.heap.size)) w' m S := by
  obtain ⟨ow, ⟨H, vm, h1, h2, h3, A⟩, e⟩ := h
  refine ⟨ow, ⟨H, vm, fun b => (h1 b).mod M (fun q r => h2 b q (hT b (h1.lt q) r)), fun b q r => r.elim (h2 b q) (fun r => ?_), fun i q => q.elim (fun q => Nat.lt_of_lt_of_le (h3 i q) M.size) (fun q => q.2), A⟩, e⟩
  have := h1.lt q
  omega
theorem own_rowAt {w : World} {B n : Nat} {e : TypeId} {a : Option Addr} {c : Nat} {xs : List Value} (h : w.ownsRow B e 1 (.slice a n c) n xs) : RowAt w a xs := by
  intro hp
  have hn : 0 < n := by have := h.1; omega
  obtain ⟨g, cap, hv, hb, hc, hrow⟩ := RowV.of_owns h hn
  injection hv with ha _ _
  refine ⟨g, 0, ha, hrow.lt, fun i v hi => ?_⟩
  have hl : i < xs.length := (List.getElem?_eq_some_iff.1 hi).1
  rw [Nat.zero_add]
  refine (hrow.cell i (by have := h.1; omega)).trans ?_
  rw [List.getD_eq_getElem?_getD, hi]; rfl
theorem tell_mod {T : Nat → Prop} {w w' w2 : World} {S : MS} {u : Value} (h : TellV w w' S true u) (M : Mod T w' w2) (hT : ∀ g, w.heap.size ≤ g → g < w'.heap.size → ¬ T g) : TvS w2 u S.vols := by
  unfold TellV at h
  rw [if_pos rfl] at h
  obtain ⟨a, c, rfl⟩ := owns_slice h.1
  refine ⟨⟨a, c, rfl, fun hp => ?_⟩⟩
  obtain ⟨g, cap, e, hb, hc, hr⟩ := RowV.of_owns h.1 hp
  injection e with e1 _ _
  exact ⟨g, e1, hr.mod M (hT g hb hr.lt)⟩
theorem tell_nil {w w' : World} {S : MS} {ua : Option Addr} {un uc : Nat} (h : TellV w w' S false (.slice ua un uc)) : un = 0 := by
  unfold TellV at h
  rw [if_neg (by decide)] at h
  injection h
theorem tell_len {w w' : World} {S : MS} {ua : Option Addr} {un uc : Nat} (h : TellV w w' S true (.slice ua un uc)) : un = S.vols.length := by
  unfold TellV at h
  rw [if_pos rfl] at h
  obtain ⟨a, c, e⟩ := owns_slice h.1
  injection e
theorem new_from {w w' : World} {a : Option Addr} {vs : List Value} (h : RowNew w w' a vs) : RowFrom w.heap.size w' a vs := fun hp => by
  obtain ⟨b, o, ha, hb, hl, _, hc⟩ := h hp
  exact ⟨b, o, ha, hb, hl, hc⟩
theorem do_tells {S S' : MS} {k : Nat} {ns : List Int} {ts : List (List UInt8)} {e : Int} {d : List UInt8} (h : DoR S k ns ts e d true S') : S' = S := by
  unfold DoR at h
  split at h
  · exact absurd h.2.2.1 (by decide)
  · split at h <;> first | exact h.2.2.2 | exact absurd h.2.2 (by decide) | exact absurd h.2.1 (by decide) | exact absurd h.2.2.1 (by decide)
theorem iso_empty (k : Nat) : Iso (emptyS k) (toMS ⟨k, [], [], 0⟩) id := by
  refine ⟨rfl, rfl, fun c d h => ?_, fun c h => ?_⟩ <;> simp [emptyS, cnt] at h
theorem info_lens {S T : MS} (h : infoS T = infoS S) : T.vols.length = S.vols.length := by
  have := congrArg List.length h
  unfold infoS at this
  simpa using this
structure XR (KK : Nat → Prop) (w wr : World) (m p : Nat) (j : Nat) (S : MS) (D : DP) (F K : Nat → Prop) (f : Nat → Nat) : Prop where
  md : Md Tryz.prog K wr m S
  gd : Good S
  wf : Wf S
  dq : Dq F wr p D
  iso : Iso S (toMS D) f
  bi : 0 ≤ D.births ∧ D.births ≤ j
  ch : D.ch.length ≤ 32 * j
  kk : ∀ i, KK i → K i
  fk : ∀ i, F i → K i
  fn : ∀ i, F i → ¬ KK i
  old : Mod (fun i => ¬ KK i) w wr
set_option maxHeartbeats 16000000 in
theorem exact_main (ls : List (List UInt8)) (a : Option Addr) (n c : Nat) (hn : ls.length = n) (z : Int) (hz : I64 z) (w : World) (hL : LibOK w) (hr : RowAt w a (ls.map strV)) :
    Calls Tryz.prog 4 #[.int .i64 z, .slice a n c] w fun e w' => e = .returned (.bool true) ∧ Same w w' := by
  refine opq fun R HR => ?_
  have HL0 := Lib.hid hL
  have HRw := Lib.hid hr
  have HN := Lib.hid hn
  clear hL hr hn
  by_cases hb : z < 1 ∨ 8 < z
  · go_enter Tryz.func4, Tryz.ntmps4
    go_wp2_with fail
    refine (awake_any w HL0.out).mono ?_
    rintro e w1 ⟨rfl, M⟩
    have J1 := Lib.hid M
    clear M
    go_wp2_with fail
    refine (new_none w1 z hz hb).mono ?_
    rintro e w2 ⟨rfl, M⟩
    have J2 := Lib.hid (J1.out.same M)
    clear M
    rcases hb with hb | hb
    · have d1 : decide (z < 1) = true := decide_eq_true hb
      go_wp2_with fail
      exact HR.out _ _ ⟨rfl, J2.out⟩
    · have d1 : decide (z < 1) = false := decide_eq_false (by omega)
      have d2 : decide (z > 8) = true := decide_eq_true (by omega)
      have d3 : decide (8 < z) = true := d2
      go_wp2_with fail
      exact HR.out _ _ ⟨rfl, J2.out⟩
  · obtain ⟨k, rfl⟩ : ∃ k : Nat, z = (k : Int) := ⟨z.toNat, by omega⟩
    have hk1 : 1 ≤ k := by omega
    have hk8 : k ≤ 8 := by omega
    have d1 : decide ((k : Int) < 1) = false := decide_eq_false (by omega)
    have d2 : decide ((k : Int) > 8) = false := decide_eq_false (by omega)
    have d3 : decide (8 < (k : Int)) = false := d2
    clear hb hz
    go_enter Tryz.func4, Tryz.ntmps4
    go_wp2_with fail
    refine (awake_any w HL0.out).mono ?_
    rintro e w1 ⟨rfl, M⟩
    have J1 := Lib.hid M
    have hw1 : w.heap.size ≤ w1.heap.size := M.size
    clear M
    go_wp2_with fail
    obtain ⟨K0, hKd⟩ : ∃ K : Nat → Prop, K = fun i => i < w1.heap.size := ⟨_, rfl⟩
    refine (new_some K0 w1 (fun i hi => by rw [hKd] at hi; exact hi) k hk1 hk8).mono ?_
    rintro e w2 ⟨m, rfl, hm, M⟩
    have J2 := Lib.hid (J1.out.same M)
    have N2 := Lib.hid M
    have HM2 := Lib.hid hm
    have hK0 := Lib.hid (show ∀ i, K0 i ↔ i < w1.heap.size from fun i => by rw [hKd])
    clear hm M hKd
    unfold bp at *
    go_wp2_with fail
    obtain ⟨w3, hw3⟩ : ∃ z, w2.alloc (.cells #[.int .i64 (k : Int), .slice none 0 0, .slice none 0 0, .int .i64 0] 59) = z := ⟨_, rfl⟩
    have N3 := Lib.hid (show Same w2 w3 by rw [← hw3]; exact (Mod.refl _ _).alloc _)
    obtain ⟨p, hp⟩ : ∃ z, w2.heap.size = z := ⟨_, rfl⟩
    have BP := Lib.hid (show Blk w3 p #[.int .i64 (k : Int), .slice none 0 0, .slice none 0 0, .int .i64 0] by rw [← hw3, ← hp]; exact Blk.new w2 _ 59)
    rw [hw3, hp]
    clear hw3
    refine (orders_any ls a n c HN.out w3 (HL0.out.same (J2.out.same N3.out)) (HRw.out.same (J2.out.same N3.out))).mono ?_
    rintro e w4 ⟨a', c', rfl, hro, M⟩
    have N4 := Lib.hid M
    have J4 := Lib.hid (J2.out.same (N3.out.same M))
    have HP := Lib.hid (show w1.heap.size ≤ p ∧ p < w3.heap.size from ⟨by have := N2.out.size; omega, BP.out.lt⟩)
    obtain ⟨KK, hKK⟩ : ∃ z : Nat → Prop, (fun i => i < w1.heap.size ∨ (w3.heap.size ≤ i ∧ i < w4.heap.size)) = z := ⟨_, rfl⟩
    have HK := Lib.hid (show ∀ i, KK i ↔ (i < w1.heap.size ∨ (w3.heap.size ≤ i ∧ i < w4.heap.size)) from fun i => by rw [← hKK])
    have HRo := Lib.hid hro
    have HF := Lib.hid (orders_form ls)
    have hN60 := orders_len ls
    have X0 := Lib.hid (show XR KK w4 w4 m p 0 (emptyS k) ⟨k, [], [], 0⟩ (fun i => i = p) (fun i => K0 i ∨ (w2.heap.size ≤ i ∧ i < w4.heap.size)) id from {
      md := HM2.out.more (N3.out.same N4.out)
      gd := emptyS_good hk1 hk8
      wf := emptyS_wf k
      dq := ⟨⟨hk1, hk8, List.Pairwise.nil, by simp, by simp, by simp, by simp, by simp, by simp⟩, none, 0, .slice none 0 0, [], fun _ => 1, {
        blk := BP.out.mod N4.out (fun q => q)
        vols := fun q => absurd q (by simp)
        chs := ⟨rfl, .inl ⟨rfl, rfl⟩⟩
        tc := fun q hq => by cases hq
        secs := fun i x l q => by simp at q
        tp := ⟨rfl, rfl⟩
        fl := fun i q => by
          have := N4.out.size
          have := HP.out
          rw [q]; omega
        cp := Nat.le_refl _ }⟩
      iso := iso_empty k
      bi := ⟨Int.le_refl _, Int.le_refl _⟩
      ch := Nat.le_refl _
      kk := fun i q => by
        rcases (HK.out i).1 q with q | ⟨q1, q2⟩
        · exact .inl ((hK0.out i).2 q)
        · exact .inr ⟨by have := N3.out.size; omega, q2⟩
      fk := fun i q => .inr (by
        have := N4.out.size
        have := HP.out
        have := N3.out.size
        rw [q]; omega)
      fn := fun i q r => by
        have := HP.out
        have := (HK.out i).1 r
        omega
      old := Mod.refl _ _ })
    generalize ordersL ls = L at *
    obtain ⟨N, hNL⟩ : ∃ N, L.length = N := ⟨_, rfl⟩
    rw [hNL] at hN60
    rw [hNL]
    clear hKK M hro HM2 J1 J2 hK0 HRw N2 N3 BP hp
    go_wp2_with fail
    go_loopw [8] (fun i wr => ∃ (j : Nat) (S : MS) (D : DP) (F K : Nat → Prop) (f : Nat → Nat), j ≤ N ∧ i = .int .i64 j ∧ XR KK w4 wr m p j S D F K f) (fun i _ => N - (intOf i).toNat)
    case atStart => exact ⟨0, _, _, _, _, _, Nat.zero_le _, rfl, X0.out⟩
    case round =>
      obtain ⟨j, S, D, F, K, f, hj, rfl, hX⟩ := hrel
      have HX := Lib.hid hX
      have Jr := Lib.hid (same_of J4.out hX.old (fun i hi => (HK.out i).2 (.inl (Nat.lt_of_lt_of_le hi hw1))))
      clear hX X0
      by_cases hlt : j < N
      · obtain ⟨o, ho⟩ : ∃ o, L[j]? = some o := ⟨_, List.getElem?_eq_getElem (by rw [hNL]; exact hlt)⟩
        have HOF := Lib.hid (HF.out o (List.mem_of_getElem? ho))
        obtain ⟨g, off, rfl, hgB, hgl, hcc⟩ := (HRo.out.mod HX.out.old (fun i h1 h2 q => q ((HK.out i).2 (.inr ⟨h1, h2⟩)))) (by rw [List.length_map, hNL]; omega)
        have hc0 := hcc j (ordW o) (by rw [List.getElem?_map, ho]; rfl)
        have HL5 := Lib.hid (HL0.out.same Jr.out)
        clear hcc ho hgB
        go_wp2_with fail
        refine (form_any o HOF.out.1 HOF.out.2 wr).mono ?_
        rintro e w5 ⟨a1, c1, a2, c2, rfl, hr1, hr2, M⟩
        have N5 := Lib.hid M
        have H1 := Lib.hid hr1
        have H2 := Lib.hid hr2
        clear hr1 hr2 M
        go_wp2_with fail
        obtain ⟨q9, hq9⟩ : ∃ z, w5.heap.size = z := ⟨_, rfl⟩
        obtain ⟨w6, hw6⟩ : ∃ z, w5.alloc (.cells #[.int .i64 ((o.k : Int) + 1), .slice a1 o.ns.length c1, .slice a2 o.ts.length c2] 64) = z := ⟨_, rfl⟩
        have B9 := Lib.hid (show Blk w6 q9 #[.int .i64 ((o.k : Int) + 1), .slice a1 o.ns.length c1, .slice a2 o.ts.length c2] by rw [← hw6, ← hq9]; exact Blk.new w5 _ 64)
        have N6 := Lib.hid (show Same wr w6 by rw [← hw6]; exact N5.out.same ((Mod.refl _ _).alloc _))
        have M56 := Lib.hid (show Same w5 w6 by rw [← hw6]; exact (Mod.refl _ _).alloc _)
        rw [hw6, hq9]
        have HQ9 := Lib.hid (show wr.heap.size ≤ q9 by rw [← hq9]; exact N5.out.size)
        clear hw6 hq9
        have HR1 := Lib.hid (show RowFrom wr.heap.size w6 a1 (o.ns.map (Value.int .i64)) from new_from (H1.out.after M56.out (fun b _ q => q)))
        have HR2 := Lib.hid (show RowFrom wr.heap.size w6 a2 (o.ts.map strV) from new_from (H2.out.after M56.out (fun b _ q => q)))
        have HM6 := Lib.hid (HX.out.md.same N6.out)
        have HD6 := Lib.hid (HX.out.dq.same N6.out)
        have HB6 := Lib.hid (show D.vols.length ≤ 16 by have := vols_len HD6.out.1.good HD6.out.1.wf; unfold toMS at this; simpa using this)
        have HC6 := Lib.hid (show ∀ W, Same w6 W → (W.cell? ⟨g, off + j, none⟩ = some (ordW o) ∧ W.cell? ⟨q9, 0, none⟩ = some (.int .i64 ((o.k : Int) + 1)) ∧ W.cell? ⟨q9, 1, none⟩ = some (.slice a1 o.ns.length c1) ∧ W.cell? ⟨q9, 2, none⟩ = some (.slice a2 o.ts.length c2)) from fun W M =>
          ⟨((N6.out.same M).cell hgl (fun q => q) _).trans hc0, (B9.out.mod M (fun q => q)).at_ (i := 0) _ rfl, (B9.out.mod M (fun q => q)).at_ (i := 1) _ rfl, (B9.out.mod M (fun q => q)).at_ (i := 2) _ rfl⟩)
        have H18 := Lib.hid (show ∀ W, Same w6 W → Calls Tryz.prog 18 #[bp m, ordW o] W fun e w' => e = .returned (.int .i64 (wantS S o.k o.ns o.ts : Int)) ∧ Same W w' from fun W M =>
          wants_any (HM6.out.same M) HX.out.gd HX.out.wf o HOF.out.1 (fun t ht => by
            have := HOF.out.2
            unfold OW.fits at this
            have := List.all_eq_true.1 this t ht
            have : t.length ≤ 512 := by simpa using this
            omega))
        have H19 := Lib.hid (show ∀ W, Same w6 W → Calls Tryz.prog 19 #[bp p, rordV o a1 a2 c1 c2] W fun e w' => e = .returned (.int .i64 (wantS S o.k o.ns o.ts : Int)) ∧ Same W w' from fun W M => by
          have := rwants_any (HD6.out.same M) (by have := HB6.out; omega) o HOF.out.1 HOF.out.2 a1 a2 c1 c2 (HR1.out.at_.same M) (HR2.out.at_.same M)
          rw [HX.out.iso.want] at this
          exact this)
        unfold rordV bp at H19
        unfold bp at H18
        have hwq : (((wantS S o.k o.ns o.ts : Nat) : Int) != ((wantS S o.k o.ns o.ts : Nat) : Int)) = false := by simp
        generalize ((wantS S o.k o.ns o.ts : Nat) : Int) = wq at *
        have hS := HC6.out w6 (Mod.refl _ _)
        clear H1 H2 N5 hc0
        go_region_held3 (fun W => W.cell? ⟨g, off + j, none⟩ = some (ordW o) ∧ W.cell? ⟨q9, 0, none⟩ = some (.int .i64 ((o.k : Int) + 1)) ∧ W.cell? ⟨q9, 1, none⟩ = some (.slice a1 o.ns.length c1) ∧ W.cell? ⟨q9, 2, none⟩ = some (.slice a2 o.ts.length c2)) (first | exact hS | assumption | exact HC6.out _ ((Mod.refl _ _).drew) | exact HC6.out _ JA.out) ((
            first
            | (go_at_call 18; refine (H18.out _ (by first | exact JA.out | exact (Mod.refl _ _).drew)).mono ?_; rintro e wa ⟨rfl, MA⟩; have JA := Lib.hid (show Same w6 wa from (by first | exact JA.out.same MA | exact ((Mod.refl _ w6).drew).same MA)); clear MA)
            | (go_at_call 19; refine (H19.out _ (by first | exact JA.out | exact (Mod.refl _ _).drew)).mono ?_; rintro e wa ⟨rfl, MA⟩; have JA := Lib.hid (show Same w6 wa from (by first | exact JA.out.same MA | exact ((Mod.refl _ w6).drew).same MA)); clear MA)))
        all_goals
          have N8 := Lib.hid (show Same wr wa from N6.out.same JA.out)
          obtain ⟨K1, hK1⟩ : ∃ z : Nat → Prop, (fun i => K i ∨ (wr.heap.size ≤ i ∧ i < wa.heap.size)) = z := ⟨_, rfl⟩
          have HK1 := Lib.hid (show ∀ i, K1 i ↔ (K i ∨ (wr.heap.size ≤ i ∧ i < wa.heap.size)) from fun i => by rw [← hK1])
          have HM8 := Lib.hid (show Md Tryz.prog K1 wa m S from by rw [← hK1]; exact HX.out.md.more N8.out)
          have HD8 := Lib.hid (HD6.out.same JA.out)
          have H1a := Lib.hid (HR1.out.mod JA.out (fun _ _ _ q => q))
          have H2a := Lib.hid (HR2.out.mod JA.out (fun _ _ _ q => q))
          have B9a := Lib.hid (B9.out.mod JA.out (fun q => q))
          obtain ⟨hc8, -, -, -⟩ := HC6.out wa JA.out
          clear hK1 H18 H19 HC6
          go_wp2_with fail
          refine (do_any HM8.out HX.out.gd HX.out.wf o HOF.out.1 (HL5.out.same N8.out)).mono ?_
          rintro e w9 ⟨er, d, ua, un, uc, S', tells, rfl, hd, hm, M, ht⟩
          have HDO := Lib.hid hd
          have HM9 := Lib.hid hm
          have M9 := Lib.hid M
          have HT9 := Lib.hid ht
          obtain ⟨w10, hw10⟩ : ∃ z, w9.alloc (.cells #[.int .i64 er, .string ⟨d.toArray⟩, .slice ua un uc] 31) = z := ⟨_, rfl⟩
          obtain ⟨q10, hq10⟩ : ∃ z, w9.heap.size = z := ⟨_, rfl⟩
          have N10 := Lib.hid (show Same w9 w10 by rw [← hw10]; exact (Mod.refl _ _).alloc _)
          have B10 := Lib.hid (show Blk w10 q10 #[.int .i64 er, .string ⟨d.toArray⟩, .slice ua un uc] by rw [← hw10, ← hq10]; exact Blk.new w9 _ 31)
          have M10 := Lib.hid (show Mod (fun i => ¬ K1 i) wa w10 from (by exact M9.out.trans (N10.out.mono (fun _ _ q => q.elim))))
          have B9b := Lib.hid (B9a.out.mod M10.out (fun q => q ((HK1.out _).2 (.inr ⟨HQ9.out, B9a.out.lt⟩))))
          have b0 := B9b.out.at_ (i := 0) _ rfl
          have b1 := B9b.out.at_ (i := 1) _ rfl
          have b2 := B9b.out.at_ (i := 2) _ rfl
          clear hd hm M ht
          go_wp2_with fail
          have HFK := Lib.hid (show ∀ i, F i → i < wr.heap.size from fun i hi => by
            obtain ⟨_, _, _, _, _, _, q⟩ := HX.out.dq
            exact q.fl i hi)
          have HFK1 := Lib.hid (show ∀ i, F i → K1 i from fun i hi => (HK1.out i).2 (.inl (HX.out.fk i hi)))
          have HKm := Lib.hid (show ∀ i, wr.heap.size ≤ i → i < wa.heap.size → K1 i from fun i a b => (HK1.out i).2 (.inr ⟨a, b⟩))
          have HD10 := Lib.hid (HD8.out.mod M10.out (fun i hi q => q (HFK1.out i hi)))
          have HDO2 := Lib.hid (rdo_any HD10.out (by have := HB6.out; omega) (by have := HX.out.ch; omega) (by have := HX.out.bi; omega) o HOF.out.1 HOF.out.2 a1 a2 c1 c2 (fun b x hl e q => by
            obtain ⟨b', x', e2, hb', _⟩ := H2a.out (by rw [List.length_map]; exact hl)
            rw [e2] at e
            injection e with e
            injection e with e _ _
            have := HFK.out b q
            omega) ((H1a.out.mod M10.out (fun i h1 h2 q => q (HKm.out i h1 h2))).at_) ((H2a.out.mod M10.out (fun i h1 h2 q => q (HKm.out i h1 h2))).at_))
          unfold rordV bp at HDO2
          refine HDO2.out.mono ?_
          rintro e w11 ⟨er2, d2', tells2, D2, F2, rfl, hd2, hdq, hF2, M, hk2, hb2, hb3, hch⟩
          obtain ⟨rfl, rfl, rfl, f2, hI2⟩ := iso_do HX.out.iso HX.out.wf HDO.out hd2
          have HI2 := Lib.hid hI2
          have HDq := Lib.hid hdq
          have M11 := Lib.hid (show Mod F w10 w11 from M)
          have G2 := Lib.hid (good_do HX.out.gd HX.out.wf HDO.out)
          have HB2 := Lib.hid (show D2.vols.length ≤ 16 by have := vols_len HDq.out.1.good HDq.out.1.wf; unfold toMS at this; simpa using this)
          obtain ⟨K2, hK2⟩ : ∃ z : Nat → Prop, (fun i => K1 i ∨ (w9.heap.size ≤ i ∧ i < w11.heap.size)) = z := ⟨_, rfl⟩
          have HK2 := Lib.hid (show ∀ i, K2 i ↔ (K1 i ∨ (w9.heap.size ≤ i ∧ i < w11.heap.size)) from fun i => by rw [← hK2])
          have M911 := Lib.hid (show Mod F w9 w11 from (N10.out.mono (fun _ _ q => q.elim)).trans M11.out)
          have HM11 := Lib.hid (show Md Tryz.prog K2 w11 m S' from by rw [← hK2]; exact HM9.out.moreX M911.out (fun b _ q => HFK1.out b q))
          have HF2K := Lib.hid (show ∀ i, F2 i → K2 i from fun i hi => (HK2.out i).2 (by
            rcases hF2 i hi with q | q
            · exact .inl (HFK1.out i q)
            · refine .inr ⟨by have := N10.out.size; omega, ?_⟩
              obtain ⟨_, _, _, _, _, _, r⟩ := HDq.out
              exact r.fl i hi))
          have HF2n := Lib.hid (show ∀ i, F2 i → ¬ KK i from fun i hi q => by
            rcases hF2 i hi with r | r
            · exact HX.out.fn i r q
            · have h1 := (HK.out i).1 q
              have h2 := HX.out.old.size
              have h3 := N8.out.size
              have h4 := M10.out.size
              have h5 := N4.out.size
              have h6 := HP.out
              omega)
          have MO11 := Lib.hid (show Mod (fun i => ¬ KK i) w4 w11 from by
            refine (HX.out.old.trans ((N8.out.mono (fun _ _ q => q.elim)).trans ?_))
            exact (M10.out.mono (fun i _ q r => q ((HK1.out i).2 (.inl (HX.out.kk i r))))).trans (M11.out.mono (fun i _ q r => HX.out.fn i q r)))
          have B10b := Lib.hid (B10.out.mod M11.out (fun q => by
            have h1 := HFK.out _ q
            have h3 := N8.out.size
            have h4 := M9.out.size
            have h5 := B10.out
            rw [← hq10] at h1
            omega))
          have b3 := B10b.out.at_ (i := 0) _ rfl
          have b4 := B10b.out.at_ (i := 1) _ rfl
          have b5 := B10b.out.at_ (i := 2) _ rfl
          clear hd2 hdq hI2 hF2 M hK2 b0 b1 b2 HDO2 hc8
          have e1 : (er2 != er2) = false := by simp
          have HLen := Lib.hid (show D2.vols.length = S'.vols.length by have := info_lens HI2.out.info; unfold toMS at this; simpa using this)
          have HNV := Lib.hid (show ∀ i, KK i → i < w11.heap.size from fun i q => by
            have h1 := (HK.out i).1 q
            have h2 := HX.out.old.size
            have h3 := N8.out.size
            have h4 := M9.out.size
            have h6 := N10.out.size
            have h7 := M11.out.size
            have h8 := N4.out.size
            have h9 := HP.out
            omega)
          obtain ⟨nv, hnv⟩ : ∃ z, D2.vols.length = z := ⟨_, rfl⟩
          have HNv := Lib.hid hnv
          have HB3 := Lib.hid (show nv ≤ 16 by rw [← hnv]; exact HB2.out)
          have HSl := Lib.hid (show S'.vols.length = nv by rw [← HLen.out]; exact hnv)
          have HDS := Lib.hid (show ∀ W u, Same w11 W → TvS W u S'.vols → Calls Tryz.prog 22 #[bp p, u] W fun e w' => e = .returned (.bool true) ∧ Same W w' from fun W u M hu =>
            dsame_any (HDq.out.same M) (by have := HB2.out; omega) u S'.vols hu (by rw [HI2.out.info]; rfl))
          unfold bp at HDS
          have hbi : 0 ≤ D2.births ∧ D2.births ≤ ((j + 1 : Nat) : Int) := by
            have := HX.out.bi
            omega
          have HBi := Lib.hid hbi
          have HCh := Lib.hid (show D2.ch.length ≤ 32 * (j + 1) by have := HX.out.ch; omega)
          have HJJ := Lib.hid (show j < N ∧ N ≤ 60 from ⟨hlt, hN60⟩)
          clear hbi hnv
          have hstep : ∃ z, z = w11 := ⟨_, rfl⟩
          cases tells2 with
          | false =>
            obtain rfl := tell_nil HT9.out
            go_wp2_with fail
            obtain ⟨w12, hw12⟩ := hstep
            have N12 := Lib.hid (show Same w11 w12 by rw [hw12]; exact Mod.refl _ _)
            rw [← hw12]
            clear hw12
            refine (volumes_md (HM11.out.same N12.out) G2.out.1 G2.out.2.1).mono ?_
            rintro e w13 ⟨vv, rfl, hv, -, M⟩
            have N13 := Lib.hid (show Same w11 w13 from N12.out.same M)
            have hvt := TvS.owns hv
            obtain ⟨va, vc, rfl, hvv⟩ := hvt.ex
            obtain ⟨nx, hnx⟩ : ∃ z, S'.vols.length = z := ⟨_, rfl⟩
            have HNX := Lib.hid hnx
            have hnx16 : nx ≤ 16 := by have := vols_len G2.out.1 G2.out.2.1; omega
            rw [hnx] at hvt hvv ⊢
            have HVS := Lib.hid hvt
            have HVV := Lib.hid hvv
            clear hv hvt hvv hnx M
            go_wp2_with fail
            refine (HDS.out w13 _ N13.out HVS.out).mono ?_
            rintro e w14 ⟨rfl, M⟩
            have N14 := Lib.hid (show Same w11 w14 from N13.out.same M)
            have P14 := Lib.hid (show Same w13 w14 from M)
            clear M
            go_wp2_with fail
            refine (count_md (HM11.out.same N14.out) G2.out.1 G2.out.2.1).mono ?_
            rintro e w15 ⟨rfl, M⟩
            have N15 := Lib.hid (show Same w11 w15 from N14.out.same M)
            have P15 := Lib.hid (show Same w13 w15 from P14.out.same M)
            have H25 := Lib.hid (dcount_any (HDq.out.same N15.out) (by have := HB2.out; omega) (by have := HCh.out; have := HJJ.out; omega))
            rw [HI2.out.count] at H25
            unfold bp at H25
            have hcq : ((countS S' : Int) != (countS S' : Int)) = false := by simp
            generalize (countS S' : Int) = cc at *
            clear M
            go_wp2_with fail
            refine H25.out.mono ?_
            rintro e w16 ⟨rfl, M⟩
            have N16 := Lib.hid (show Same w11 w16 from N15.out.same M)
            have P16 := Lib.hid (show Same w13 w16 from P15.out.same M)
            clear M H25
            go_wp2_with fail
            go_loopw [15] (fun i wz => ∃ q : Nat, q ≤ nx ∧ i = .int .i64 q ∧ Same w16 wz) (fun i _ => nx - (intOf i).toNat)
            case atStart => exact ⟨0, Nat.zero_le _, rfl, Mod.refl _ _⟩
            case round =>
              obtain ⟨q, hqn, rfl, hMq⟩ := hrel
              have PZ := Lib.hid (show Same w13 _ from P16.out.same hMq)
              have NZ := Lib.hid (show Same w11 _ from N16.out.same hMq)
              have QZ := Lib.hid hMq
              clear hMq
              by_cases hqt : q < nx
              · obtain ⟨v, hv⟩ : ∃ v, S'.vols[q]? = some v := ⟨_, List.getElem?_eq_getElem (by rw [HNX.out]; exact hqt)⟩
                obtain ⟨g5, rfl, r5⟩ := HVV.out (by omega)
                have r6 := r5.mod PZ.out (fun q => q)
                have p2 := (r6.cell (q * 5 + 2) (by omega)).trans (show _ = some (Value.int .i64 0) from info_at hv 2 (by decide) _ rfl)
                clear r5 hv
                go_wp2_with fail
                go_roundw
                case rel => exact ⟨q + 1, by omega, by go_num, QZ.out⟩
                case measure => simp [intOf]; omega
              · obtain rfl : q = nx := by omega
                go_wp2_with fail
                go_roundw
                case rel => exact ⟨j + 1, S', D2, F2, K2, f2, by have := HJJ.out; omega, by go_num, {
                    md := HM11.out.same NZ.out
                    gd := G2.out.1
                    wf := G2.out.2.1
                    dq := HDq.out.same NZ.out
                    iso := HI2.out
                    bi := HBi.out
                    ch := HCh.out
                    kk := fun i q => (HK2.out i).2 (.inl ((HK1.out i).2 (.inl (HX.out.kk i q))))
                    fk := HF2K.out
                    fn := HF2n.out
                    old := MO11.out.trans (NZ.out.mono (fun _ _ q => q.elim)) }⟩
                case measure => have := HJJ.out; simp [intOf]; omega
          | true =>
            have hun := tell_len HT9.out
            have hss := do_tells HDO.out
            have hv0 : TvS w11 (.slice ua un uc) S'.vols := by
              rw [hss]
              exact tell_mod HT9.out M911.out (fun g h1 h2 q => by
                have h3 := HFK.out g q
                have h4 := N8.out.size
                omega)
            have hun2 : un = nv := by rw [hun, ← HSl.out, hss]
            obtain rfl := hun2
            have HV0 := Lib.hid hv0
            have x1 : ∃ ga gc, w11.cell? ⟨p, 1, none⟩ = some (.slice ga un gc) ∧ p < w11.heap.size := by
              obtain ⟨hO, ga, gc, cv, gs, tag, hXx⟩ := HDq.out
              have := hXx.blk.at_ (i := 1) _ rfl
              rw [HNv.out] at this
              exact ⟨ga, gc, this, hXx.blk.lt⟩
            obtain ⟨ga, gc, x1, xlt⟩ := x1
            clear hun hss hv0
            rcases Nat.eq_zero_or_pos un with h0 | h0
            · subst h0
              go_wp2_with fail
              refine (HDS.out w11 _ (Mod.refl _ _) HV0.out).mono ?_
              rintro e w12 ⟨rfl, M⟩
              have N12 := Lib.hid (show Same w11 w12 from M)
              clear M
              go_wp2_with fail
              refine (volumes_md (HM11.out.same N12.out) G2.out.1 G2.out.2.1).mono ?_
              rintro e w13 ⟨vv, rfl, hv, -, M⟩
              have N13 := Lib.hid (show Same w11 w13 from N12.out.same M)
              have hvt := TvS.owns hv
              obtain ⟨va, vc, rfl, hvv⟩ := hvt.ex
              obtain ⟨nx, hnx⟩ : ∃ z, S'.vols.length = z := ⟨_, rfl⟩
              have HNX := Lib.hid hnx
              have hnx16 : nx ≤ 16 := by have := vols_len G2.out.1 G2.out.2.1; omega
              rw [hnx] at hvt hvv ⊢
              have HVS := Lib.hid hvt
              have HVV := Lib.hid hvv
              clear hv hvt hvv hnx M
              go_wp2_with fail
              refine (HDS.out w13 _ N13.out HVS.out).mono ?_
              rintro e w14 ⟨rfl, M⟩
              have N14 := Lib.hid (show Same w11 w14 from N13.out.same M)
              have P14 := Lib.hid (show Same w13 w14 from M)
              clear M
              go_wp2_with fail
              refine (count_md (HM11.out.same N14.out) G2.out.1 G2.out.2.1).mono ?_
              rintro e w15 ⟨rfl, M⟩
              have N15 := Lib.hid (show Same w11 w15 from N14.out.same M)
              have P15 := Lib.hid (show Same w13 w15 from P14.out.same M)
              have H25 := Lib.hid (dcount_any (HDq.out.same N15.out) (by have := HB2.out; omega) (by have := HCh.out; have := HJJ.out; omega))
              rw [HI2.out.count] at H25
              unfold bp at H25
              have hcq : ((countS S' : Int) != (countS S' : Int)) = false := by simp
              generalize (countS S' : Int) = cc at *
              clear M
              go_wp2_with fail
              refine H25.out.mono ?_
              rintro e w16 ⟨rfl, M⟩
              have N16 := Lib.hid (show Same w11 w16 from N15.out.same M)
              have P16 := Lib.hid (show Same w13 w16 from P15.out.same M)
              clear M H25
              go_wp2_with fail
              go_loopw [15] (fun i wz => ∃ q : Nat, q ≤ nx ∧ i = .int .i64 q ∧ Same w16 wz) (fun i _ => nx - (intOf i).toNat)
              case atStart => exact ⟨0, Nat.zero_le _, rfl, Mod.refl _ _⟩
              case round =>
                obtain ⟨q, hqn, rfl, hMq⟩ := hrel
                have PZ := Lib.hid (show Same w13 _ from P16.out.same hMq)
                have NZ := Lib.hid (show Same w11 _ from N16.out.same hMq)
                have QZ := Lib.hid hMq
                clear hMq
                by_cases hqt : q < nx
                · obtain ⟨v, hv⟩ : ∃ v, S'.vols[q]? = some v := ⟨_, List.getElem?_eq_getElem (by rw [HNX.out]; exact hqt)⟩
                  obtain ⟨g5, rfl, r5⟩ := HVV.out (by omega)
                  have r6 := r5.mod PZ.out (fun q => q)
                  have p2 := (r6.cell (q * 5 + 2) (by omega)).trans (show _ = some (Value.int .i64 0) from info_at hv 2 (by decide) _ rfl)
                  clear r5 hv
                  go_wp2_with fail
                  go_roundw
                  case rel => exact ⟨q + 1, by omega, by go_num, QZ.out⟩
                  case measure => simp [intOf]; omega
                · obtain rfl : q = nx := by omega
                  go_wp2_with fail
                  go_roundw
                  case rel => exact ⟨j + 1, S', D2, F2, K2, f2, by have := HJJ.out; omega, by go_num, {
                      md := HM11.out.same NZ.out
                      gd := G2.out.1
                      wf := G2.out.2.1
                      dq := HDq.out.same NZ.out
                      iso := HI2.out
                      bi := HBi.out
                      ch := HCh.out
                      kk := fun i q => (HK2.out i).2 (.inl ((HK1.out i).2 (.inl (HX.out.kk i q))))
                      fk := HF2K.out
                      fn := HF2n.out
                      old := MO11.out.trans (NZ.out.mono (fun _ _ q => q.elim)) }⟩
                  case measure => have := HJJ.out; simp [intOf]; omega
            · have hgt : decide ((un : Int) > 0) = true := decide_eq_true (by omega)
              have hgt2 : decide (0 < (un : Int)) = true := hgt
              have hne : ¬ un = 0 := by omega
              clear h0
              go_wp2_with fail
              refine (HDS.out w11 _ (Mod.refl _ _) HV0.out).mono ?_
              rintro e w12 ⟨rfl, M⟩
              have N12 := Lib.hid (show Same w11 w12 from M)
              clear M
              go_wp2_with fail
              refine (volumes_md (HM11.out.same N12.out) G2.out.1 G2.out.2.1).mono ?_
              rintro e w13 ⟨vv, rfl, hv, -, M⟩
              have N13 := Lib.hid (show Same w11 w13 from N12.out.same M)
              have hvt := TvS.owns hv
              obtain ⟨va, vc, rfl, hvv⟩ := hvt.ex
              obtain ⟨nx, hnx⟩ : ∃ z, S'.vols.length = z := ⟨_, rfl⟩
              have HNX := Lib.hid hnx
              have hnx16 : nx ≤ 16 := by have := vols_len G2.out.1 G2.out.2.1; omega
              rw [hnx] at hvt hvv ⊢
              have HVS := Lib.hid hvt
              have HVV := Lib.hid hvv
              clear hv hvt hvv hnx M
              go_wp2_with fail
              refine (HDS.out w13 _ N13.out HVS.out).mono ?_
              rintro e w14 ⟨rfl, M⟩
              have N14 := Lib.hid (show Same w11 w14 from N13.out.same M)
              have P14 := Lib.hid (show Same w13 w14 from M)
              clear M
              go_wp2_with fail
              refine (count_md (HM11.out.same N14.out) G2.out.1 G2.out.2.1).mono ?_
              rintro e w15 ⟨rfl, M⟩
              have N15 := Lib.hid (show Same w11 w15 from N14.out.same M)
              have P15 := Lib.hid (show Same w13 w15 from P14.out.same M)
              have H25 := Lib.hid (dcount_any (HDq.out.same N15.out) (by have := HB2.out; omega) (by have := HCh.out; have := HJJ.out; omega))
              rw [HI2.out.count] at H25
              unfold bp at H25
              have hcq : ((countS S' : Int) != (countS S' : Int)) = false := by simp
              generalize (countS S' : Int) = cc at *
              clear M
              go_wp2_with fail
              refine H25.out.mono ?_
              rintro e w16 ⟨rfl, M⟩
              have N16 := Lib.hid (show Same w11 w16 from N15.out.same M)
              have P16 := Lib.hid (show Same w13 w16 from P15.out.same M)
              clear M H25
              go_wp2_with fail
              go_loopw [15] (fun i wz => ∃ q : Nat, q ≤ nx ∧ i = .int .i64 q ∧ Same w16 wz) (fun i _ => nx - (intOf i).toNat)
              case atStart => exact ⟨0, Nat.zero_le _, rfl, Mod.refl _ _⟩
              case round =>
                obtain ⟨q, hqn, rfl, hMq⟩ := hrel
                have PZ := Lib.hid (show Same w13 _ from P16.out.same hMq)
                have NZ := Lib.hid (show Same w11 _ from N16.out.same hMq)
                have QZ := Lib.hid hMq
                clear hMq
                by_cases hqt : q < nx
                · obtain ⟨v, hv⟩ : ∃ v, S'.vols[q]? = some v := ⟨_, List.getElem?_eq_getElem (by rw [HNX.out]; exact hqt)⟩
                  obtain ⟨g5, rfl, r5⟩ := HVV.out (by omega)
                  have r6 := r5.mod PZ.out (fun q => q)
                  have p2 := (r6.cell (q * 5 + 2) (by omega)).trans (show _ = some (Value.int .i64 0) from info_at hv 2 (by decide) _ rfl)
                  clear r5 hv
                  go_wp2_with fail
                  go_roundw
                  case rel => exact ⟨q + 1, by omega, by go_num, QZ.out⟩
                  case measure => simp [intOf]; omega
                · obtain rfl : q = nx := by omega
                  go_wp2_with fail
                  go_roundw
                  case rel => exact ⟨j + 1, S', D2, F2, K2, f2, by have := HJJ.out; omega, by go_num, {
                      md := HM11.out.same NZ.out
                      gd := G2.out.1
                      wf := G2.out.2.1
                      dq := HDq.out.same NZ.out
                      iso := HI2.out
                      bi := HBi.out
                      ch := HCh.out
                      kk := fun i q => (HK2.out i).2 (.inl ((HK1.out i).2 (.inl (HX.out.kk i q))))
                      fk := HF2K.out
                      fn := HF2n.out
                      old := MO11.out.trans (NZ.out.mono (fun _ _ q => q.elim)) }⟩
                  case measure => have := HJJ.out; simp [intOf]; omega
      · obtain rfl : j = N := by omega
        have HB6 := Lib.hid (show D.vols.length ≤ 16 by have := vols_len HX.out.dq.1.good HX.out.dq.1.wf; unfold toMS at this; simpa using this)
        have HLen := Lib.hid (show D.vols.length = S.vols.length by have := info_lens HX.out.iso.info; unfold toMS at this; simpa using this)
        go_wp2_with fail
        refine (dump_md HX.out.md HX.out.gd HX.out.wf).mono ?_
        rintro e w5 ⟨vd, rfl, hd, -, M⟩
        have N5 := Lib.hid M
        obtain ⟨da, dc, rfl⟩ := owns_slice hd
        have HR1 := Lib.hid (own_rowAt hd)
        have H27 := Lib.hid (ddump_any (HX.out.dq.same N5.out) (by have := HB6.out; omega) (by have := HX.out.ch; omega))
        rw [HLen.out, HX.out.iso.dump] at H27
        unfold bp at H27
        clear hd M
        go_wp2_with fail
        refine H27.out.mono ?_
        rintro e w6 ⟨ve, rfl, hd, M⟩
        have N6 := Lib.hid (show Same wr w6 from N5.out.same M)
        have P6 := Lib.hid M
        obtain ⟨ea, ec, rfl⟩ := owns_slice hd
        have HR2 := Lib.hid (own_rowAt hd)
        clear hd M H27
        go_wp2_with fail
        refine (same26_any w6 (dumpS S) S.vols.length (by unfold dumpS; rw [List.length_map]) (by have := HB6.out; have := HLen.out; omega) da ea dc ec (HR1.out.same P6.out) HR2.out).mono ?_
        rintro e w7 ⟨rfl, M⟩
        have N7 := Lib.hid (show Same w w7 from (Jr.out.same N6.out).same M)
        clear M
        go_wp2_with fail
        exact HR.out _ _ ⟨rfl, N7.out⟩
end Go.Proofs.YtlcepoagpocadaaGreatDoor
