import Derived.Test.YtlcepoagpocadaaGreatDoorOrdQ
import Derived.Test.YtlcepoagpocadaaGreatDoorShelfT
set_option linter.unusedSimpArgs false
set_option linter.unusedVariables false
namespace Go.Proofs.YtlcepoagpocadaaGreatDoor
open Go Go.RowKit
/-- What the library's functions read lies there. -/
structure LibOK (w : World) : Prop where
  vars : VarsOK w
  utf : Lib.Utf8Tabs 2 3 w
  mx : ∃ m, w.cell? ⟨0, 0, none⟩ = some (.int .i64 m)
theorem LibOK.lt {w : World} (h : LibOK w) : 5 < w.heap.size := h.vars.lt
theorem LibOK.block {w w' : World} (h : LibOK w) (e : ∀ g, g < 6 → w'.heap[g]? = w.heap[g]?) : LibOK w' :=
  ⟨h.vars.block fun g hg => e g (by omega), ⟨fun c hc => (World.cell?_of_block (w := w) (e 2 (by omega))).trans (h.utf.1 c hc), fun i hi => ⟨(World.cell?_of_block (w := w) (e 3 (by omega))).trans (h.utf.2 i hi).1, (World.cell?_of_block (w := w) (e 3 (by omega))).trans (h.utf.2 i hi).2⟩⟩, let ⟨m, hm⟩ := h.mx; ⟨m, (World.cell?_of_block (w := w) (e 0 (by omega))).trans hm⟩⟩
theorem LibOK.mod {S : Nat → Prop} {w w' : World} (h : LibOK w) (M : Mod S w w') (hS : ∀ i, S i → 6 ≤ i) : LibOK w' :=
  h.block fun g hg => M.block g (by have := h.lt; omega) (fun q => by have := hS g q; omega)
theorem LibOK.same {w w' : World} (h : LibOK w) (M : Same w w') : LibOK w' := h.mod M fun _ q => q.elim
theorem LibOK.tab {w : World} (h : LibOK w) : TabOK w := h.vars.tab
/-- The reader at b: the words that are left, and whether one was missing. -/
structure RdS (w : World) (b : Nat) (st : Rd) : Prop where
  blk : ∃ a, Blk w b #[.slice a st.1.length st.1.length, .bool st.2] ∧ (0 < st.1.length → ∃ g o, a = some ⟨g, o, none⟩ ∧ g ≠ b ∧ g < w.heap.size ∧ ∀ i s, st.1[i]? = some s → w.cell? ⟨g, o + i, none⟩ = some (strV s))
  short : ∀ s ∈ st.1, s.length ≤ 1050000
theorem RdS.same {w w' : World} {b : Nat} {st : Rd} (h : RdS w b st) (M : Same w w') : RdS w' b st := by
  obtain ⟨⟨a, hb, hr⟩, hs⟩ := h
  refine ⟨⟨a, hb.mod M (fun q => q), fun hp => ?_⟩, hs⟩
  obtain ⟨g, o, ha, hg, hlt, hc⟩ := hr hp
  exact ⟨g, o, ha, hg, Nat.lt_of_lt_of_le hlt M.size, fun i s hi => (M.cell hlt (fun q => q) _).trans (hc i s hi)⟩
theorem RdS.lt {w : World} {b : Nat} {st : Rd} (h : RdS w b st) : b < w.heap.size := let ⟨_, hb, _⟩ := h.blk; hb.lt
theorem RdS.flag {w : World} {b : Nat} {st : Rd} (h : RdS w b st) (v : Bool) : RdS (w.setCell ⟨b, 1, none⟩ (.bool v)) b (st.1, v) := by
  obtain ⟨⟨a, hb, hr⟩, hs⟩ := h
  refine ⟨⟨a, hb.set 1 _, fun hp => ?_⟩, hs⟩
  obtain ⟨g, o, ha, hg, hlt, hc⟩ := hr hp
  exact ⟨g, o, ha, hg, by simp only [World.size_setCell]; exact hlt, fun i s hi => (World.cell?_setCell_other _ _ _ _ (fun e => hg (by injection e with e1; exact e1.symm))).trans (hc i s hi)⟩
theorem next_short (st : Rd) (h : ∀ s ∈ st.1, s.length ≤ 1050000) : (rdNext st).1.length ≤ 1050000 := by
  obtain ⟨r, b⟩ := st
  cases r with
  | nil => exact Nat.zero_le _
  | cons s r => exact h s (by simp)
abbrev At (b : Nat) : Nat → Prop := fun i => i = b
set_option maxRecDepth 10000 in
theorem next_any (b : Nat) (st : Rd) (w : World) (h : RdS w b st) : Calls Tryz.prog 95 #[bptr b] w fun e w' => e = .returned (strV (rdNext st).1) ∧ RdS w' b (rdNext st).2 ∧ Mod (At b) w w' := by
  refine opq fun R HR => ?_
  obtain ⟨ws, bad⟩ := st
  have H := Lib.hid h
  have hlt := h.lt
  obtain ⟨⟨a, hb, hr⟩, hs⟩ := h
  have hc := hb.cell
  have hf := hb.free
  cases ws with
  | nil =>
    dsimp only [rdNext] at *
    have L1 := Lib.hid (H.out.flag true)
    clear hb hr hs H
    go_enter Tryz.func95, Tryz.ntmps95
    go_wp2
    exact HR.out _ _ ⟨rfl, L1.out, (Mod.refl (At b) w).setCell (p := ⟨b, 1, none⟩) (fun _ => rfl) _⟩
  | cons s r =>
    dsimp only [rdNext] at *
    obtain ⟨g, o, rfl, hg, hgl, hcg⟩ := hr (by simp)
    have hc0 : w.cell? ⟨g, o, none⟩ = some (.string ⟨s.toArray⟩) := hcg 0 s rfl
    have hc1 := Lib.hid (fun i t (hi : r[i]? = some t) => hcg (i + 1) t (by simpa using hi))
    have hfin : ∀ (a' : Option Addr), (0 < r.length → a' = some ⟨g, o + 1, none⟩) → RdS (w.setCell ⟨b, 0, none⟩ (.slice a' r.length r.length)) b (r, bad) := by
      intro a' ha'
      refine ⟨⟨a', hb.set 0 _, fun hp => ⟨g, o + 1, ha' hp, hg, by simp only [World.size_setCell]; exact hgl, fun i t hi => ?_⟩⟩, fun t ht => hs t (by simp [ht])⟩
      have := hc1.out i t hi
      rw [show o + (i + 1) = o + 1 + i from by omega] at this
      exact (World.cell?_setCell_other _ _ _ _ (fun e => hg (by injection e with e1; exact e1.symm))).trans this
    have HF := Lib.hid hfin
    have HM := Lib.hid (fun v => (Mod.refl (At b) w).setCell (p := ⟨b, 0, none⟩) (fun _ => rfl) v)
    clear hb hr hs H hcg hc1 hfin
    cases r with
    | nil =>
      go_enter Tryz.func95, Tryz.ntmps95
      go_wp2
      exact HR.out _ _ ⟨rfl, HF.out _ (fun q => absurd q (by simp)), HM.out _⟩
    | cons t r =>
      obtain ⟨n, hn⟩ : ∃ n, r.length = n := ⟨_, rfl⟩
      have hl1 : (s :: t :: r).length = n + 1 + 1 := by simp [hn]
      have hl2 : (t :: r).length = n + 1 := by simp [hn]
      rw [hl1] at hc
      rw [hl2] at HF
      have hz : (((n : Int) + 1 + 1) == 0) = false := beq_eq_false_iff_ne.2 (by omega)
      go_enter Tryz.func95, Tryz.ntmps95
      go_wp2
      exact HR.out _ _ ⟨rfl, HF.out _ (fun q => rfl), HM.out _⟩
end Go.Proofs.YtlcepoagpocadaaGreatDoor
namespace Go.Proofs.YtlcepoagpocadaaGreatDoor
open Go Go.RowKit
theorem rest_short {st : Rd} (h : ∀ s ∈ st.1, s.length ≤ 1050000) : ∀ s ∈ (rdNext st).2.1, s.length ≤ 1050000 := by
  obtain ⟨r, b⟩ := st
  cases r with
  | nil => exact fun s hs => by cases hs
  | cons s r => exact fun t ht => h t (by exact List.mem_cons_of_mem _ ht)

set_option maxRecDepth 10000 in
set_option maxHeartbeats 1000000 in
theorem rnum_any (b : Nat) (h6 : 6 ≤ b) (st : Rd) (w : World) (hL : LibOK w) (h : RdS w b st) : Calls Tryz.prog 98 #[bptr b] w fun e w' => e = .returned (.int .i64 (rdNum st).1) ∧ RdS w' b (rdNum st).2 ∧ Mod (At b) w w' := by
  refine opq fun R HR => ?_
  have HL := Lib.hid hL
  have HX := Lib.hid (next_any b st w h)
  have hs := next_short st h.short
  clear h hL
  unfold rdNum at HR
  generalize (rdNext st).1 = s at *
  generalize (rdNext st).2 = st2 at *
  go_enter Tryz.func98, Tryz.ntmps98
  go_wp2_with fail
  refine HX.out.mono ?_
  rintro e w1 ⟨rfl, h1, M1⟩
  have K1 := Lib.hid h1
  have K2 := Lib.hid M1
  have K3 := Lib.hid (HL.out.mod M1 (fun i q => by have : i = b := q; omega))
  clear h1 M1 HX HL

  have HN := Lib.hid (number_any ⟨s.toArray⟩ (by rw [bytes_size]; omega) w1 K3.out.vars)
  unfold num at HR
  generalize numberL ⟨s.toArray⟩ = q at *

  obtain ⟨qv, qb⟩ := q
  dsimp only at HR HN
  unfold strV
  go_wp2_with fail
  refine HN.out.mono ?_
  rintro e w2 ⟨rfl, M2⟩
  have K4 := Lib.hid (K1.out.same M2)
  have K5 := Lib.hid (K2.out.same M2)
  clear M2 HN K1 K2 K3
  have hlt := K4.out.lt
  obtain ⟨a, hb, _⟩ := K4.out.blk
  have hc := hb.cell
  have hf := hb.free
  have KF := Lib.hid K4.out.flag
  obtain ⟨ws, bad⟩ := st2
  dsimp only at *
  clear hb K4
  cases bad <;> cases qb
  all_goals
    go_wp2
    exact HR.out _ _ ⟨rfl, KF.out _, K5.out.setCell (p := ⟨b, 1, none⟩) (fun _ => rfl) _⟩

set_option maxRecDepth 10000 in
set_option maxHeartbeats 1000000 in
theorem rdat_any (b : Nat) (h6 : 6 ≤ b) (st : Rd) (w : World) (hL : LibOK w) (h : RdS w b st) : Calls Tryz.prog 121 #[bptr b] w fun e w' => e = .returned (.string ⟨(rdDat st).1.toArray⟩) ∧ RdS w' b (rdDat st).2 ∧ Mod (At b) w w' := by
  refine opq fun R HR => ?_
  have HL := Lib.hid hL
  have HX := Lib.hid (next_any b st w h)
  have hs := next_short st h.short
  clear h hL
  unfold rdDat at HR
  generalize (rdNext st).1 = s at *
  generalize (rdNext st).2 = st2 at *
  go_enter Tryz.func121, Tryz.ntmps121
  go_wp2_with fail
  refine HX.out.mono ?_
  rintro e w1 ⟨rfl, h1, M1⟩
  have K1 := Lib.hid h1
  have K2 := Lib.hid M1
  have K3 := Lib.hid (HL.out.mod M1 (fun i q => by have : i = b := q; omega))
  clear h1 M1 HX HL

  have HN := Lib.hid (bytes_any s (by omega) w1 K3.out.utf)
  unfold byt at HR
  generalize refBytes s = q at *

  obtain ⟨qv, qb⟩ := q
  dsimp only at HR HN
  unfold strV
  go_wp2_with fail
  refine HN.out.mono ?_
  rintro e w2 ⟨rfl, M2⟩
  have K4 := Lib.hid (K1.out.same M2)
  have K5 := Lib.hid (K2.out.same M2)
  clear M2 HN K1 K2 K3
  have hlt := K4.out.lt
  obtain ⟨a, hb, _⟩ := K4.out.blk
  have hc := hb.cell
  have hf := hb.free
  have KF := Lib.hid K4.out.flag
  obtain ⟨ws, bad⟩ := st2
  dsimp only at *
  clear hb K4
  cases bad <;> cases qb
  all_goals
    go_wp2
    exact HR.out _ _ ⟨rfl, KF.out _, K5.out.setCell (p := ⟨b, 1, none⟩) (fun _ => rfl) _⟩

set_option maxRecDepth 10000 in
set_option maxHeartbeats 2000000 in
theorem volume_any (b : Nat) (h6 : 6 ≤ b) (k : Nat) (hk : k = 0 ∨ k = 1 ∨ k = 2 ∨ k = 3 ∨ k = 4 ∨ k = 5) (st : Rd) (w : World) (hL : LibOK w) (h : RdS w b st) : Calls Tryz.prog 96 #[bptr b, strV (wordL k)] w fun e w' => e = .returned (ordW (rdKind k st).1) ∧ RdS w' b (rdKind k st).2 ∧ Mod (At b) w w' := by
  refine opq fun R HR => ?_
  have K0 := Lib.hid hL
  have J0 := Lib.hid h
  have T0 := Lib.hid (Mod.refl (At b) w)
  clear hL h
  rcases hk with rfl | rfl | rfl | rfl | rfl | rfl
  · show Calls Tryz.prog 96 #[bptr b, .string ⟨#[99, 114, 101, 97, 116, 101]⟩] w R
    go_enter Tryz.func96, Tryz.ntmps96
    go_wp2_with fail
    refine (rnum_any b h6 _ _ K0.out J0.out).mono ?_
    rintro e w1 ⟨rfl, h1, M1⟩
    have J1 := Lib.hid h1
    have K1 := Lib.hid (K0.out.mod M1 (fun i q => by have : i = b := q; omega))
    have T1 := Lib.hid (T0.out.trans M1)
    clear h1 M1 K0 J0 T0
    go_wp2_with fail
    refine (rnum_any b h6 _ _ K1.out J1.out).mono ?_
    rintro e w2 ⟨rfl, h1, M1⟩
    have J2 := Lib.hid h1
    have K2 := Lib.hid (K1.out.mod M1 (fun i q => by have : i = b := q; omega))
    have T2 := Lib.hid (T1.out.trans M1)
    clear h1 M1 K1 J1 T1
    go_wp2
    exact HR.out _ _ ⟨rfl, J2.out, T2.out⟩
  · show Calls Tryz.prog 96 #[bptr b, .string ⟨#[100, 101, 108, 101, 116, 101]⟩] w R
    go_enter Tryz.func96, Tryz.ntmps96
    go_wp2_with fail
    refine (rnum_any b h6 _ _ K0.out J0.out).mono ?_
    rintro e w1 ⟨rfl, h1, M1⟩
    have J1 := Lib.hid h1
    have K1 := Lib.hid (K0.out.mod M1 (fun i q => by have : i = b := q; omega))
    have T1 := Lib.hid (T0.out.trans M1)
    clear h1 M1 K0 J0 T0
    go_wp2
    exact HR.out _ _ ⟨rfl, J1.out, T1.out⟩
  · show Calls Tryz.prog 96 #[bptr b, .string ⟨#[115, 110, 97, 112]⟩] w R
    go_enter Tryz.func96, Tryz.ntmps96
    go_wp2_with fail
    refine (rnum_any b h6 _ _ K0.out J0.out).mono ?_
    rintro e w1 ⟨rfl, h1, M1⟩
    have J1 := Lib.hid h1
    have K1 := Lib.hid (K0.out.mod M1 (fun i q => by have : i = b := q; omega))
    have T1 := Lib.hid (T0.out.trans M1)
    clear h1 M1 K0 J0 T0
    go_wp2_with fail
    refine (rnum_any b h6 _ _ K1.out J1.out).mono ?_
    rintro e w2 ⟨rfl, h1, M1⟩
    have J2 := Lib.hid h1
    have K2 := Lib.hid (K1.out.mod M1 (fun i q => by have : i = b := q; omega))
    have T2 := Lib.hid (T1.out.trans M1)
    clear h1 M1 K1 J1 T1
    go_wp2
    exact HR.out _ _ ⟨rfl, J2.out, T2.out⟩
  · show Calls Tryz.prog 96 #[bptr b, .string ⟨#[114, 101, 115, 105, 122, 101]⟩] w R
    go_enter Tryz.func96, Tryz.ntmps96
    go_wp2_with fail
    refine (rnum_any b h6 _ _ K0.out J0.out).mono ?_
    rintro e w1 ⟨rfl, h1, M1⟩
    have J1 := Lib.hid h1
    have K1 := Lib.hid (K0.out.mod M1 (fun i q => by have : i = b := q; omega))
    have T1 := Lib.hid (T0.out.trans M1)
    clear h1 M1 K0 J0 T0
    go_wp2_with fail
    refine (rnum_any b h6 _ _ K1.out J1.out).mono ?_
    rintro e w2 ⟨rfl, h1, M1⟩
    have J2 := Lib.hid h1
    have K2 := Lib.hid (K1.out.mod M1 (fun i q => by have : i = b := q; omega))
    have T2 := Lib.hid (T1.out.trans M1)
    clear h1 M1 K1 J1 T1
    go_wp2
    exact HR.out _ _ ⟨rfl, J2.out, T2.out⟩
  · show Calls Tryz.prog 96 #[bptr b, .string ⟨#[112, 105, 110]⟩] w R
    go_enter Tryz.func96, Tryz.ntmps96
    go_wp2_with fail
    refine (rnum_any b h6 _ _ K0.out J0.out).mono ?_
    rintro e w1 ⟨rfl, h1, M1⟩
    have J1 := Lib.hid h1
    have K1 := Lib.hid (K0.out.mod M1 (fun i q => by have : i = b := q; omega))
    have T1 := Lib.hid (T0.out.trans M1)
    clear h1 M1 K0 J0 T0
    go_wp2
    exact HR.out _ _ ⟨rfl, J1.out, T1.out⟩
  · show Calls Tryz.prog 96 #[bptr b, .string ⟨#[102, 114, 101, 101]⟩] w R
    go_enter Tryz.func96, Tryz.ntmps96
    go_wp2_with fail
    refine (rnum_any b h6 _ _ K0.out J0.out).mono ?_
    rintro e w1 ⟨rfl, h1, M1⟩
    have J1 := Lib.hid h1
    have K1 := Lib.hid (K0.out.mod M1 (fun i q => by have : i = b := q; omega))
    have T1 := Lib.hid (T0.out.trans M1)
    clear h1 M1 K0 J0 T0
    go_wp2
    exact HR.out _ _ ⟨rfl, J1.out, T1.out⟩
set_option maxRecDepth 10000 in
set_option maxHeartbeats 2000000 in
theorem sectors_any (b : Nat) (h6 : 6 ≤ b) (k : Nat) (hk : k = 6 ∨ k = 7 ∨ k = 8) (st : Rd) (w : World) (hL : LibOK w) (h : RdS w b st) : Calls Tryz.prog 97 #[bptr b, strV (wordL k)] w fun e w' => e = .returned (ordW (rdKind k st).1) ∧ RdS w' b (rdKind k st).2 ∧ Mod (At b) w w' := by
  refine opq fun R HR => ?_
  have K0 := Lib.hid hL
  have J0 := Lib.hid h
  have T0 := Lib.hid (Mod.refl (At b) w)
  clear hL h
  rcases hk with rfl | rfl | rfl
  · show Calls Tryz.prog 97 #[bptr b, .string ⟨#[114, 101, 97, 100]⟩] w R
    go_enter Tryz.func97, Tryz.ntmps97
    go_wp2_with fail
    refine (rnum_any b h6 _ _ K0.out J0.out).mono ?_
    rintro e w1 ⟨rfl, h1, M1⟩
    have J1 := Lib.hid h1
    have K1 := Lib.hid (K0.out.mod M1 (fun i q => by have : i = b := q; omega))
    have T1 := Lib.hid (T0.out.trans M1)
    clear h1 M1 K0 J0 T0
    go_wp2_with fail
    refine (rnum_any b h6 _ _ K1.out J1.out).mono ?_
    rintro e w2 ⟨rfl, h1, M1⟩
    have J2 := Lib.hid h1
    have K2 := Lib.hid (K1.out.mod M1 (fun i q => by have : i = b := q; omega))
    have T2 := Lib.hid (T1.out.trans M1)
    clear h1 M1 K1 J1 T1
    go_wp2_with fail
    refine (rnum_any b h6 _ _ K2.out J2.out).mono ?_
    rintro e w3 ⟨rfl, h1, M1⟩
    have J3 := Lib.hid h1
    have K3 := Lib.hid (K2.out.mod M1 (fun i q => by have : i = b := q; omega))
    have T3 := Lib.hid (T2.out.trans M1)
    clear h1 M1 K2 J2 T2
    go_wp2
    exact HR.out _ _ ⟨rfl, J3.out, T3.out⟩
  · show Calls Tryz.prog 97 #[bptr b, .string ⟨#[119, 114, 105, 116, 101]⟩] w R
    go_enter Tryz.func97, Tryz.ntmps97
    go_wp2_with fail
    refine (rnum_any b h6 _ _ K0.out J0.out).mono ?_
    rintro e w1 ⟨rfl, h1, M1⟩
    have J1 := Lib.hid h1
    have K1 := Lib.hid (K0.out.mod M1 (fun i q => by have : i = b := q; omega))
    have T1 := Lib.hid (T0.out.trans M1)
    clear h1 M1 K0 J0 T0
    go_wp2_with fail
    refine (rnum_any b h6 _ _ K1.out J1.out).mono ?_
    rintro e w2 ⟨rfl, h1, M1⟩
    have J2 := Lib.hid h1
    have K2 := Lib.hid (K1.out.mod M1 (fun i q => by have : i = b := q; omega))
    have T2 := Lib.hid (T1.out.trans M1)
    clear h1 M1 K1 J1 T1
    go_wp2_with fail
    refine (rdat_any b h6 _ _ K2.out J2.out).mono ?_
    rintro e w3 ⟨rfl, h1, M1⟩
    have J3 := Lib.hid h1
    have K3 := Lib.hid (K2.out.mod M1 (fun i q => by have : i = b := q; omega))
    have T3 := Lib.hid (T2.out.trans M1)
    clear h1 M1 K2 J2 T2
    go_wp2
    exact HR.out _ _ ⟨rfl, J3.out, T3.out⟩
  · show Calls Tryz.prog 97 #[bptr b, .string ⟨#[100, 105, 115, 99, 97, 114, 100]⟩] w R
    go_enter Tryz.func97, Tryz.ntmps97
    go_wp2_with fail
    refine (rnum_any b h6 _ _ K0.out J0.out).mono ?_
    rintro e w1 ⟨rfl, h1, M1⟩
    have J1 := Lib.hid h1
    have K1 := Lib.hid (K0.out.mod M1 (fun i q => by have : i = b := q; omega))
    have T1 := Lib.hid (T0.out.trans M1)
    clear h1 M1 K0 J0 T0
    go_wp2_with fail
    refine (rnum_any b h6 _ _ K1.out J1.out).mono ?_
    rintro e w2 ⟨rfl, h1, M1⟩
    have J2 := Lib.hid h1
    have K2 := Lib.hid (K1.out.mod M1 (fun i q => by have : i = b := q; omega))
    have T2 := Lib.hid (T1.out.trans M1)
    clear h1 M1 K1 J1 T1
    go_wp2_with fail
    refine (rnum_any b h6 _ _ K2.out J2.out).mono ?_
    rintro e w3 ⟨rfl, h1, M1⟩
    have J3 := Lib.hid h1
    have K3 := Lib.hid (K2.out.mod M1 (fun i q => by have : i = b := q; omega))
    have T3 := Lib.hid (T2.out.trans M1)
    clear h1 M1 K2 J2 T2
    go_wp2
    exact HR.out _ _ ⟨rfl, J3.out, T3.out⟩
set_option maxRecDepth 10000 in
set_option maxHeartbeats 2000000 in
theorem crash_any (b : Nat) (h6 : 6 ≤ b) (k : Nat) (hk : k = 14) (st : Rd) (w : World) (hL : LibOK w) (h : RdS w b st) : Calls Tryz.prog 99 #[bptr b] w fun e w' => e = .returned (ordW (rdKind k st).1) ∧ RdS w' b (rdKind k st).2 ∧ Mod (At b) w w' := by
  refine opq fun R HR => ?_
  have K0 := Lib.hid hL
  have J0 := Lib.hid h
  have T0 := Lib.hid (Mod.refl (At b) w)
  clear hL h
  subst hk
  go_enter Tryz.func99, Tryz.ntmps99
  go_wp2_with fail
  refine (rdat_any b h6 _ _ K0.out J0.out).mono ?_
  rintro e w1 ⟨rfl, h1, M1⟩
  have J1 := Lib.hid h1
  have K1 := Lib.hid (K0.out.mod M1 (fun i q => by have : i = b := q; omega))
  have T1 := Lib.hid (T0.out.trans M1)
  clear h1 M1 K0 J0 T0
  go_wp2_with fail
  refine (rdat_any b h6 _ _ K1.out J1.out).mono ?_
  rintro e w2 ⟨rfl, h1, M1⟩
  have J2 := Lib.hid h1
  have K2 := Lib.hid (K1.out.mod M1 (fun i q => by have : i = b := q; omega))
  have T2 := Lib.hid (T1.out.trans M1)
  clear h1 M1 K1 J1 T1
  go_wp2_with fail
  refine (rdat_any b h6 _ _ K2.out J2.out).mono ?_
  rintro e w3 ⟨rfl, h1, M1⟩
  have J3 := Lib.hid h1
  have K3 := Lib.hid (K2.out.mod M1 (fun i q => by have : i = b := q; omega))
  have T3 := Lib.hid (T2.out.trans M1)
  clear h1 M1 K2 J2 T2
  go_wp2
  exact HR.out _ _ ⟨rfl, J3.out, T3.out⟩
end Go.Proofs.YtlcepoagpocadaaGreatDoor
namespace Go.Proofs.YtlcepoagpocadaaGreatDoor
open Go Go.RowKit
set_option maxRecDepth 10000 in
set_option maxHeartbeats 4000000 in
theorem order_some (b : Nat) (h6 : 6 ≤ b) (k : Nat) (hk : k < 15) (st : Rd) (hw : (rdNext st).1 = wordL k) (w : World) (hL : LibOK w) (h : RdS w b st) : Calls Tryz.prog 72 #[bptr b] w fun e w' => e = .returned (ordW (rdKind k (rdNext st).2).1) ∧ RdS w' b (rdKind k (rdNext st).2).2 ∧ Mod (At b) w w' := by
  refine opq fun R HR => ?_
  have HX := Lib.hid (next_any b st w h)
  rw [hw] at HX
  have K0 := Lib.hid hL
  clear h hL hw
  generalize (rdNext st).2 = st2 at *
  rcases kinds15 hk with rfl | rfl | rfl | rfl | rfl | rfl | rfl | rfl | rfl | rfl | rfl | rfl | rfl | rfl | rfl
  · have HX2 := Lib.hid (show Calls Tryz.prog 95 #[bptr b] w fun e w' => e = .returned (.string ⟨#[99, 114, 101, 97, 116, 101]⟩) ∧ RdS w' b st2 ∧ Mod (At b) w w' from HX.out)
    clear HX
    go_enter Tryz.func72, Tryz.ntmps72
    go_wp2_with fail
    refine HX2.out.mono ?_
    rintro e w1 ⟨rfl, h1, M1⟩
    have J1 := Lib.hid h1
    have K1 := Lib.hid (K0.out.mod M1 (fun i q => by have : i = b := q; omega))
    have T1 := Lib.hid M1
    clear h1 M1 HX2 K0
    go_wp2_with fail
    refine (volume_any b h6 0 (by decide) st2 _ K1.out J1.out).mono ?_
    rintro e w2 ⟨rfl, h2, M2⟩
    have J2 := Lib.hid h2
    have T2 := Lib.hid (T1.out.trans M2)
    clear h2 M2 J1 K1 T1
    go_wp2
    exact HR.out _ _ ⟨rfl, J2.out, T2.out⟩
  · have HX2 := Lib.hid (show Calls Tryz.prog 95 #[bptr b] w fun e w' => e = .returned (.string ⟨#[100, 101, 108, 101, 116, 101]⟩) ∧ RdS w' b st2 ∧ Mod (At b) w w' from HX.out)
    clear HX
    go_enter Tryz.func72, Tryz.ntmps72
    go_wp2_with fail
    refine HX2.out.mono ?_
    rintro e w1 ⟨rfl, h1, M1⟩
    have J1 := Lib.hid h1
    have K1 := Lib.hid (K0.out.mod M1 (fun i q => by have : i = b := q; omega))
    have T1 := Lib.hid M1
    clear h1 M1 HX2 K0
    go_wp2_with fail
    refine (volume_any b h6 1 (by decide) st2 _ K1.out J1.out).mono ?_
    rintro e w2 ⟨rfl, h2, M2⟩
    have J2 := Lib.hid h2
    have T2 := Lib.hid (T1.out.trans M2)
    clear h2 M2 J1 K1 T1
    go_wp2
    exact HR.out _ _ ⟨rfl, J2.out, T2.out⟩
  · have HX2 := Lib.hid (show Calls Tryz.prog 95 #[bptr b] w fun e w' => e = .returned (.string ⟨#[115, 110, 97, 112]⟩) ∧ RdS w' b st2 ∧ Mod (At b) w w' from HX.out)
    clear HX
    go_enter Tryz.func72, Tryz.ntmps72
    go_wp2_with fail
    refine HX2.out.mono ?_
    rintro e w1 ⟨rfl, h1, M1⟩
    have J1 := Lib.hid h1
    have K1 := Lib.hid (K0.out.mod M1 (fun i q => by have : i = b := q; omega))
    have T1 := Lib.hid M1
    clear h1 M1 HX2 K0
    go_wp2_with fail
    refine (volume_any b h6 2 (by decide) st2 _ K1.out J1.out).mono ?_
    rintro e w2 ⟨rfl, h2, M2⟩
    have J2 := Lib.hid h2
    have T2 := Lib.hid (T1.out.trans M2)
    clear h2 M2 J1 K1 T1
    go_wp2
    exact HR.out _ _ ⟨rfl, J2.out, T2.out⟩
  · have HX2 := Lib.hid (show Calls Tryz.prog 95 #[bptr b] w fun e w' => e = .returned (.string ⟨#[114, 101, 115, 105, 122, 101]⟩) ∧ RdS w' b st2 ∧ Mod (At b) w w' from HX.out)
    clear HX
    go_enter Tryz.func72, Tryz.ntmps72
    go_wp2_with fail
    refine HX2.out.mono ?_
    rintro e w1 ⟨rfl, h1, M1⟩
    have J1 := Lib.hid h1
    have K1 := Lib.hid (K0.out.mod M1 (fun i q => by have : i = b := q; omega))
    have T1 := Lib.hid M1
    clear h1 M1 HX2 K0
    go_wp2_with fail
    refine (volume_any b h6 3 (by decide) st2 _ K1.out J1.out).mono ?_
    rintro e w2 ⟨rfl, h2, M2⟩
    have J2 := Lib.hid h2
    have T2 := Lib.hid (T1.out.trans M2)
    clear h2 M2 J1 K1 T1
    go_wp2
    exact HR.out _ _ ⟨rfl, J2.out, T2.out⟩
  · have HX2 := Lib.hid (show Calls Tryz.prog 95 #[bptr b] w fun e w' => e = .returned (.string ⟨#[112, 105, 110]⟩) ∧ RdS w' b st2 ∧ Mod (At b) w w' from HX.out)
    clear HX
    go_enter Tryz.func72, Tryz.ntmps72
    go_wp2_with fail
    refine HX2.out.mono ?_
    rintro e w1 ⟨rfl, h1, M1⟩
    have J1 := Lib.hid h1
    have K1 := Lib.hid (K0.out.mod M1 (fun i q => by have : i = b := q; omega))
    have T1 := Lib.hid M1
    clear h1 M1 HX2 K0
    go_wp2_with fail
    refine (volume_any b h6 4 (by decide) st2 _ K1.out J1.out).mono ?_
    rintro e w2 ⟨rfl, h2, M2⟩
    have J2 := Lib.hid h2
    have T2 := Lib.hid (T1.out.trans M2)
    clear h2 M2 J1 K1 T1
    go_wp2
    exact HR.out _ _ ⟨rfl, J2.out, T2.out⟩
  · have HX2 := Lib.hid (show Calls Tryz.prog 95 #[bptr b] w fun e w' => e = .returned (.string ⟨#[102, 114, 101, 101]⟩) ∧ RdS w' b st2 ∧ Mod (At b) w w' from HX.out)
    clear HX
    go_enter Tryz.func72, Tryz.ntmps72
    go_wp2_with fail
    refine HX2.out.mono ?_
    rintro e w1 ⟨rfl, h1, M1⟩
    have J1 := Lib.hid h1
    have K1 := Lib.hid (K0.out.mod M1 (fun i q => by have : i = b := q; omega))
    have T1 := Lib.hid M1
    clear h1 M1 HX2 K0
    go_wp2_with fail
    refine (volume_any b h6 5 (by decide) st2 _ K1.out J1.out).mono ?_
    rintro e w2 ⟨rfl, h2, M2⟩
    have J2 := Lib.hid h2
    have T2 := Lib.hid (T1.out.trans M2)
    clear h2 M2 J1 K1 T1
    go_wp2
    exact HR.out _ _ ⟨rfl, J2.out, T2.out⟩
  · have HX2 := Lib.hid (show Calls Tryz.prog 95 #[bptr b] w fun e w' => e = .returned (.string ⟨#[114, 101, 97, 100]⟩) ∧ RdS w' b st2 ∧ Mod (At b) w w' from HX.out)
    clear HX
    go_enter Tryz.func72, Tryz.ntmps72
    go_wp2_with fail
    refine HX2.out.mono ?_
    rintro e w1 ⟨rfl, h1, M1⟩
    have J1 := Lib.hid h1
    have K1 := Lib.hid (K0.out.mod M1 (fun i q => by have : i = b := q; omega))
    have T1 := Lib.hid M1
    clear h1 M1 HX2 K0
    go_wp2_with fail
    refine (sectors_any b h6 6 (by decide) st2 _ K1.out J1.out).mono ?_
    rintro e w2 ⟨rfl, h2, M2⟩
    have J2 := Lib.hid h2
    have T2 := Lib.hid (T1.out.trans M2)
    clear h2 M2 J1 K1 T1
    go_wp2
    exact HR.out _ _ ⟨rfl, J2.out, T2.out⟩
  · have HX2 := Lib.hid (show Calls Tryz.prog 95 #[bptr b] w fun e w' => e = .returned (.string ⟨#[119, 114, 105, 116, 101]⟩) ∧ RdS w' b st2 ∧ Mod (At b) w w' from HX.out)
    clear HX
    go_enter Tryz.func72, Tryz.ntmps72
    go_wp2_with fail
    refine HX2.out.mono ?_
    rintro e w1 ⟨rfl, h1, M1⟩
    have J1 := Lib.hid h1
    have K1 := Lib.hid (K0.out.mod M1 (fun i q => by have : i = b := q; omega))
    have T1 := Lib.hid M1
    clear h1 M1 HX2 K0
    go_wp2_with fail
    refine (sectors_any b h6 7 (by decide) st2 _ K1.out J1.out).mono ?_
    rintro e w2 ⟨rfl, h2, M2⟩
    have J2 := Lib.hid h2
    have T2 := Lib.hid (T1.out.trans M2)
    clear h2 M2 J1 K1 T1
    go_wp2
    exact HR.out _ _ ⟨rfl, J2.out, T2.out⟩
  · have HX2 := Lib.hid (show Calls Tryz.prog 95 #[bptr b] w fun e w' => e = .returned (.string ⟨#[100, 105, 115, 99, 97, 114, 100]⟩) ∧ RdS w' b st2 ∧ Mod (At b) w w' from HX.out)
    clear HX
    go_enter Tryz.func72, Tryz.ntmps72
    go_wp2_with fail
    refine HX2.out.mono ?_
    rintro e w1 ⟨rfl, h1, M1⟩
    have J1 := Lib.hid h1
    have K1 := Lib.hid (K0.out.mod M1 (fun i q => by have : i = b := q; omega))
    have T1 := Lib.hid M1
    clear h1 M1 HX2 K0
    go_wp2_with fail
    refine (sectors_any b h6 8 (by decide) st2 _ K1.out J1.out).mono ?_
    rintro e w2 ⟨rfl, h2, M2⟩
    have J2 := Lib.hid h2
    have T2 := Lib.hid (T1.out.trans M2)
    clear h2 M2 J1 K1 T1
    go_wp2
    exact HR.out _ _ ⟨rfl, J2.out, T2.out⟩
  · have HX2 := Lib.hid (show Calls Tryz.prog 95 #[bptr b] w fun e w' => e = .returned (.string ⟨#[102, 108, 117, 115, 104]⟩) ∧ RdS w' b st2 ∧ Mod (At b) w w' from HX.out)
    clear HX
    go_enter Tryz.func72, Tryz.ntmps72
    go_wp2_with fail
    refine HX2.out.mono ?_
    rintro e w1 ⟨rfl, h1, M1⟩
    have J1 := Lib.hid h1
    have K1 := Lib.hid (K0.out.mod M1 (fun i q => by have : i = b := q; omega))
    have T1 := Lib.hid M1
    clear h1 M1 HX2 K0
    go_wp2
    exact HR.out _ _ ⟨rfl, J1.out, T1.out⟩
  · have HX2 := Lib.hid (show Calls Tryz.prog 95 #[bptr b] w fun e w' => e = .returned (.string ⟨#[116, 105, 99, 107]⟩) ∧ RdS w' b st2 ∧ Mod (At b) w w' from HX.out)
    clear HX
    go_enter Tryz.func72, Tryz.ntmps72
    go_wp2_with fail
    refine HX2.out.mono ?_
    rintro e w1 ⟨rfl, h1, M1⟩
    have J1 := Lib.hid h1
    have K1 := Lib.hid (K0.out.mod M1 (fun i q => by have : i = b := q; omega))
    have T1 := Lib.hid M1
    clear h1 M1 HX2 K0
    go_wp2_with fail
    refine (rnum_any b h6 st2 _ K1.out J1.out).mono ?_
    rintro e w2 ⟨rfl, h2, M2⟩
    have J2 := Lib.hid h2
    have T2 := Lib.hid (T1.out.trans M2)
    clear h2 M2 J1 K1 T1
    go_wp2
    exact HR.out _ _ ⟨rfl, J2.out, T2.out⟩
  · have HX2 := Lib.hid (show Calls Tryz.prog 95 #[bptr b] w fun e w' => e = .returned (.string ⟨#[100, 101, 99, 97, 121]⟩) ∧ RdS w' b st2 ∧ Mod (At b) w w' from HX.out)
    clear HX
    go_enter Tryz.func72, Tryz.ntmps72
    go_wp2_with fail
    refine HX2.out.mono ?_
    rintro e w1 ⟨rfl, h1, M1⟩
    have J1 := Lib.hid h1
    have K1 := Lib.hid (K0.out.mod M1 (fun i q => by have : i = b := q; omega))
    have T1 := Lib.hid M1
    clear h1 M1 HX2 K0
    go_wp2
    exact HR.out _ _ ⟨rfl, J1.out, T1.out⟩
  · have HX2 := Lib.hid (show Calls Tryz.prog 95 #[bptr b] w fun e w' => e = .returned (.string ⟨#[115, 116, 97, 116, 117, 115]⟩) ∧ RdS w' b st2 ∧ Mod (At b) w w' from HX.out)
    clear HX
    go_enter Tryz.func72, Tryz.ntmps72
    go_wp2_with fail
    refine HX2.out.mono ?_
    rintro e w1 ⟨rfl, h1, M1⟩
    have J1 := Lib.hid h1
    have K1 := Lib.hid (K0.out.mod M1 (fun i q => by have : i = b := q; omega))
    have T1 := Lib.hid M1
    clear h1 M1 HX2 K0
    go_wp2
    exact HR.out _ _ ⟨rfl, J1.out, T1.out⟩
  · have HX2 := Lib.hid (show Calls Tryz.prog 95 #[bptr b] w fun e w' => e = .returned (.string ⟨#[102, 117, 115, 101]⟩) ∧ RdS w' b st2 ∧ Mod (At b) w w' from HX.out)
    clear HX
    go_enter Tryz.func72, Tryz.ntmps72
    go_wp2_with fail
    refine HX2.out.mono ?_
    rintro e w1 ⟨rfl, h1, M1⟩
    have J1 := Lib.hid h1
    have K1 := Lib.hid (K0.out.mod M1 (fun i q => by have : i = b := q; omega))
    have T1 := Lib.hid M1
    clear h1 M1 HX2 K0
    go_wp2_with fail
    refine (rnum_any b h6 st2 _ K1.out J1.out).mono ?_
    rintro e w2 ⟨rfl, h2, M2⟩
    have J2 := Lib.hid h2
    have T2 := Lib.hid (T1.out.trans M2)
    clear h2 M2 J1 K1 T1
    go_wp2
    exact HR.out _ _ ⟨rfl, J2.out, T2.out⟩
  · have HX2 := Lib.hid (show Calls Tryz.prog 95 #[bptr b] w fun e w' => e = .returned (.string ⟨#[99, 114, 97, 115, 104]⟩) ∧ RdS w' b st2 ∧ Mod (At b) w w' from HX.out)
    clear HX
    go_enter Tryz.func72, Tryz.ntmps72
    go_wp2_with fail
    refine HX2.out.mono ?_
    rintro e w1 ⟨rfl, h1, M1⟩
    have J1 := Lib.hid h1
    have K1 := Lib.hid (K0.out.mod M1 (fun i q => by have : i = b := q; omega))
    have T1 := Lib.hid M1
    clear h1 M1 HX2 K0
    go_wp2_with fail
    refine (crash_any b h6 14 (by decide) st2 _ K1.out J1.out).mono ?_
    rintro e w2 ⟨rfl, h2, M2⟩
    have J2 := Lib.hid h2
    have T2 := Lib.hid (T1.out.trans M2)
    clear h2 M2 J1 K1 T1
    go_wp2
    exact HR.out _ _ ⟨rfl, J2.out, T2.out⟩
set_option maxRecDepth 10000 in
theorem order_none (b : Nat) (st : Rd) (hw : kindOf (rdNext st).1 = none) (w : World) (h : RdS w b st) : Calls Tryz.prog 72 #[bptr b] w fun e w' => e = .returned .nilIface ∧ RdS w' b (rdNext st).2 ∧ Mod (At b) w w' := by
  refine opq fun R HR => ?_
  have HX := Lib.hid (next_any b st w h)
  have hn := kind_none hw
  clear h hw
  generalize (rdNext st).2 = st2 at *
  generalize (rdNext st).1 = s at *
  have key : ∀ k, k < 15 → (s == wordL k) = false := fun k hk => by
    have := hn k hk
    rw [beq_eq_false_iff_ne] at this ⊢
    exact fun e => this e.symm
  have b0 : (s == [99, 114, 101, 97, 116, 101]) = false := key 0 (by decide)
  have b1 : (s == [100, 101, 108, 101, 116, 101]) = false := key 1 (by decide)
  have b2 : (s == [115, 110, 97, 112]) = false := key 2 (by decide)
  have b3 : (s == [114, 101, 115, 105, 122, 101]) = false := key 3 (by decide)
  have b4 : (s == [112, 105, 110]) = false := key 4 (by decide)
  have b5 : (s == [102, 114, 101, 101]) = false := key 5 (by decide)
  have b6 : (s == [114, 101, 97, 100]) = false := key 6 (by decide)
  have b7 : (s == [119, 114, 105, 116, 101]) = false := key 7 (by decide)
  have b8 : (s == [100, 105, 115, 99, 97, 114, 100]) = false := key 8 (by decide)
  have b9 : (s == [102, 108, 117, 115, 104]) = false := key 9 (by decide)
  have b10 : (s == [116, 105, 99, 107]) = false := key 10 (by decide)
  have b11 : (s == [100, 101, 99, 97, 121]) = false := key 11 (by decide)
  have b12 : (s == [115, 116, 97, 116, 117, 115]) = false := key 12 (by decide)
  have b13 : (s == [102, 117, 115, 101]) = false := key 13 (by decide)
  have b14 : (s == [99, 114, 97, 115, 104]) = false := key 14 (by decide)
  clear key hn
  unfold strV at HX
  go_enter Tryz.func72, Tryz.ntmps72
  go_wp2_with fail
  refine HX.out.mono ?_
  rintro e w1 ⟨rfl, h1, M1⟩
  have J1 := Lib.hid h1
  have T1 := Lib.hid M1
  clear h1 M1 HX
  go_wp2
  exact HR.out _ _ ⟨rfl, J1.out, T1.out⟩
end Go.Proofs.YtlcepoagpocadaaGreatDoor
namespace Go.Proofs.YtlcepoagpocadaaGreatDoor
open Go Go.RowKit
theorem splitB_len (l : List UInt8) : (Lib.splitB ⟨#[32]⟩ 0 (Lib.countB ⟨l.toArray⟩ ⟨#[32]⟩) ⟨l.toArray⟩).length = (spl l).length := by
  have := congrArg List.length (splitB_spl ⟨l.toArray⟩)
  rw [List.length_map] at this; exact this
theorem split_any (l : List UInt8) (hl : l.length ≤ 1050000) (w : World) (hL : LibOK w) : Calls Tryz.prog 71 #[.string ⟨l.toArray⟩, .string ⟨#[32]⟩] w fun e w' => ∃ g, e = .returned (.slice (some ⟨g, 0, none⟩) (spl l).length (spl l).length) ∧ g < w'.heap.size ∧ (∀ i s, (spl l)[i]? = some s → w'.cell? ⟨g, 0 + i, none⟩ = some (strV s)) ∧ Same w w' := by
  obtain ⟨m, hm⟩ := hL.mx
  refine (Tryz.strings_Split ⟨l.toArray⟩ ⟨#[32]⟩ m w (by rw [bytes_size]; omega) hm (by decide)).mono ?_
  rintro e w' ⟨rfl, rfl⟩
  have hc : Lib.countB ⟨l.toArray⟩ ⟨#[32]⟩ + 1 = (spl l).length := by
    rw [← splitB_len, Lib.splitB_all _ (by decide) 0 _ _ rfl]
  refine ⟨w.heap.size, by rw [hc], by simp, fun i s hi => ?_, (Mod.refl _ _).alloc _⟩
  rw [Nat.zero_add]
  refine ((Blk.new w _ 9).cell i).trans ?_
  have e := splitB_spl ⟨l.toArray⟩
  have e2 : (⟨l.toArray⟩ : ByteArray).data.toList = l := rfl
  rw [e2] at e
  rw [← e, List.getElem?_map] at hi
  obtain ⟨x, hx, rfl⟩ := Option.map_eq_some_iff.1 hi
  rw [List.getElem?_toArray, List.getElem?_map, hx]
  rfl
/-- What Parse hands back. -/
def ansP : Option OW → Value
  | some o => .tuple #[ordW o, .int .i64 0]
  | none => .tuple #[.nilIface, .int .i64 3]
set_option maxRecDepth 10000 in
set_option maxHeartbeats 2000000 in
theorem parse_any (l : List UInt8) (hl : l.length ≤ 1050000) (w : World) (hL : LibOK w) : Calls Tryz.prog 30 #[.string ⟨l.toArray⟩] w fun e w' => e = .returned (ansP (parseL l)) ∧ Same w w' := by
  refine opq fun R HR => ?_
  have HL := Lib.hid hL
  have HSp := Lib.hid (split_any l hl w hL)
  have hsh : ∀ s ∈ spl l, s.length ≤ 1050000 := fun s hs => Nat.le_trans (spl_len l s hs) hl
  have HSh := Lib.hid hsh
  have hw6 := hL.lt
  unfold parseL parseW at HR
  clear hsh hL
  generalize spl l = ws at *
  obtain ⟨n, hn⟩ : ∃ n, ws.length = n := ⟨_, rfl⟩
  have HN := Lib.hid hn
  rw [hn] at HSp
  clear hn
  go_enter Tryz.func30, Tryz.ntmps30
  go_wp2_with fail
  refine HSp.out.mono ?_
  rintro e w1 ⟨g, rfl, hg, hcg, M1⟩
  have K1 := Lib.hid M1
  have hs1 := M1.size
  have HC := Lib.hid hcg
  clear M1 hcg HSp
  go_wp2_with fail
  have J0 := Lib.hid (show RdS (w1.alloc (.cells #[.slice (some ⟨g, 0, none⟩) n n, .bool false] 162)) w1.heap.size (ws, false) from ⟨⟨some ⟨g, 0, none⟩, by
    have := Blk.new w1 #[.slice (some ⟨g, 0, none⟩) n n, .bool false] 162
    rw [HN.out]; exact this, fun _ => ⟨g, 0, rfl, by omega, by simp; omega, fun i s hi => (((Mod.refl (fun _ => False) w1).alloc (.cells #[.slice (some ⟨g, 0, none⟩) n n, .bool false] 162)).cell hg (fun q => q) _).trans (HC.out i s hi)⟩⟩, HSh.out⟩)
  have K2 := Lib.hid (K1.out.alloc (.cells #[.slice (some ⟨g, 0, none⟩) n n, .bool false] 162))
  have L2 := Lib.hid (HL.out.same K2.out)
  have h6 : 6 ≤ w1.heap.size := by omega
  have hbw : w.heap.size ≤ w1.heap.size := hs1
  clear K1 HC HSh HL HN
  generalize w1.alloc _ = W at *
  generalize w1.heap.size = b at *
  cases hk : kindOf (rdNext (ws, false)).1 with
  | none =>
    rw [hk] at HR
    have HO := Lib.hid (order_none b (ws, false) hk W J0.out)
    clear hk
    go_wp2_with fail
    refine HO.out.mono ?_
    rintro e w2 ⟨rfl, h2, M2⟩
    have K3 := Lib.hid (K2.out.then_ M2 (fun i hi q => by have : i = b := q; omega))
    clear h2 M2 HO
    go_wp2_with fail
    refine (parts_nil w2).mono ?_
    rintro e w3 ⟨rfl, M3⟩
    have K4 := Lib.hid (K3.out.same M3)
    clear M3
    go_wp2
    exact HR.out _ _ ⟨rfl, K4.out⟩
  | some k =>
    rw [hk] at HR
    dsimp only at HR
    have hkl := kind_lt hk
    have HO := Lib.hid (order_some b h6 k hkl.1 (ws, false) hkl.2.symm W L2.out J0.out)
    have HF := Lib.hid (rdKind_form k hkl.1 (rdNext (ws, false)).2)
    clear hk hkl
    generalize rdKind k (rdNext (ws, false)).2 = q at *
    obtain ⟨o, st⟩ := q
    dsimp only at HR HO HF
    go_wp2_with fail
    refine HO.out.mono ?_
    rintro e w2 ⟨rfl, h2, M2⟩
    have J2 := Lib.hid h2
    have K3 := Lib.hid (K2.out.then_ M2 (fun i hi q => by have : i = b := q; omega))
    have HP := Lib.hid (parts_all o HF.out w2)
    clear h2 M2 HO
    obtain ⟨T, x, hv⟩ : ∃ T x, ordW o = .iface T x := ⟨_, _, rfl⟩
    unfold ansP at HR
    rw [hv] at HP ⊢
    have HV := Lib.hid hv
    clear hv
    generalize (o.ns.map (Value.int .i64)).length = n1 at *
    cases hfit : o.fits with
    | false =>
      rw [hfit] at HP HR
      clear hfit
      go_wp2_with fail
      refine HP.out.mono ?_
      rintro e w3 ⟨a1, c1, a2, c2, rfl, _, _, M3⟩
      have K4 := Lib.hid (K3.out.same M3)
      clear M3
      go_wp2
      exact HR.out _ _ ⟨rfl, K4.out⟩
    | true =>
      rw [hfit] at HP HR
      clear hfit
      go_wp2_with fail
      refine HP.out.mono ?_
      rintro e w3 ⟨a1, c1, a2, c2, rfl, _, _, M3⟩
      have K4 := Lib.hid (K3.out.same M3)
      have J3 := Lib.hid (J2.out.same M3)
      clear M3 J2 K3 K2 HP
      have hlt := J3.out.lt
      obtain ⟨a, hb, _⟩ := J3.out.blk
      have hc := hb.cell
      obtain ⟨rest, bad⟩ := st
      dsimp only at *
      clear hb
      cases bad with
      | true =>
        go_wp2
        exact HR.out _ _ ⟨rfl, K4.out⟩
      | false =>
        cases rest with
        | nil =>
          go_wp2
          exact HR.out _ _ ⟨by simp [HV.out], K4.out⟩
        | cons s r =>
          obtain ⟨m, hm⟩ : ∃ m, r.length = m := ⟨_, rfl⟩
          have hl1 : (s :: r).length = m + 1 := by simp [hm]
          rw [hl1] at hc
          have hz : decide (((m : Int) + 1) > 0) = true := decide_eq_true (by omega)
          have hz2 : decide (0 < ((m : Int) + 1)) = true := decide_eq_true (by omega)
          go_wp2
          exact HR.out _ _ ⟨rfl, K4.out⟩
end Go.Proofs.YtlcepoagpocadaaGreatDoor
