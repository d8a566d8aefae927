import Derived.Test.YtlcepoagpocadaaGreatDoorWtJ
import Derived.Test.YtlcepoagpocadaaGreatDoorMfX
set_option linter.unusedSimpArgs false
set_option linter.unusedVariables false
set_option maxRecDepth 100000
/- What events come to. -/
namespace Go.Proofs.YtlcepoagpocadaaGreatDoor
open Go Go.RowKit
theorem goes_any {B : Nat} {w : World} {x : Nat} {sl sz : Int} {s : WS} (h : Wt B w x sl sz s) (hL : LibT w) (ev : Ev) (ok : EvOk s ev) (vv dv : Value) (hv : TvS w vv ev.vols) (hd : TxS w dv ev.dump) (hsl : s.since.length ≤ 9999) :
    Calls Tryz.prog 36 #[bp x, .agg (evC ev.o ev.er ev.d vv ev.gen dv)] w fun e w' => ∃ r, e = .returned (.bool r.isSome) ∧ GoR s ev r ∧ (∀ s', r = some s' → Wt B w' x sl sz s') ∧ Mod (fun i => B ≤ i) w w' := by
  by_cases hk : ev.o.k = 14
  · exact (goes_crash h hL ev ok vv dv hv hd hk).mono fun e w' ⟨r, h1, h2, h3, h4⟩ => ⟨r, h1, .inl ⟨hk, h2⟩, h3, h4⟩
  · exact goes_order h hL ev ok vv dv hv hd hk hsl
/-- Events that go on, one behind another. -/
def RunR (s : WS) : List Ev → WS → Prop
  | [], t => t = s
  | e :: l, t => ∃ u, GoR s e (some u) ∧ RunR u l t
theorem RunR.snoc {l : List Ev} : ∀ {s t u : WS} {e : Ev}, RunR s l t → GoR t e (some u) → RunR s (l ++ [e]) u := by
  induction l with
  | nil =>
    intro s t u e h g
    obtain rfl : t = s := h
    exact ⟨u, g, rfl⟩
  | cons a l ih =>
    intro s t u e ⟨v, g1, h⟩ g
    exact ⟨v, g1, ih h g⟩
theorem GoR.since {s t : WS} {e : Ev} (h : GoR s e (some t)) : t.since.length ≤ s.since.length + 1 ∧ t.gen = e.gen := by
  rcases h with ⟨_, h⟩ | ⟨_, ⟨_, h⟩ | ⟨_, N, f, er, d, tells, S', _, _, _, _, h⟩⟩
  · rcases h with ⟨_, h⟩ | ⟨_, C, f, _, _, _, ⟨_, h⟩ | ⟨_, sec, Q, f2, _, _, h⟩⟩
    · cases h
    · cases h
    · cases h; exact ⟨by simp, rfl⟩
  · cases h
  · rcases h with ⟨_, h⟩ | ⟨_, ⟨_, h⟩ | ⟨_, Q, f2, _, h⟩⟩
    · cases h
    · cases h; exact ⟨by simp, rfl⟩
    · cases h; exact ⟨by simp, rfl⟩
theorem RunR.since {l : List Ev} : ∀ {s t : WS}, RunR s l t → t.since.length ≤ s.since.length + l.length := by
  induction l with
  | nil => intro s t h; obtain rfl : t = s := h; simp
  | cons a l ih =>
    intro s t ⟨v, g1, h⟩
    have := ih h
    have := g1.since.1
    simp only [List.length_cons]
    omega
/-- A row of events in memory. -/
structure EvRow (w : World) (a : Option Addr) (evs : List Ev) : Prop where
  ex : 0 < evs.length → ∃ b, a = some ⟨b, 0, none⟩ ∧ b < w.heap.size ∧ ∀ (j : Nat) (ev : Ev), evs[j]? = some ev → ∃ vv dv, TvS w vv ev.vols ∧ TxS w dv ev.dump ∧ ∀ (i : Nat) (u : Value), (evC ev.o ev.er ev.d vv ev.gen dv)[i]? = some u → w.cell? ⟨b, j * 6 + i, none⟩ = some u
theorem EvRow.same {w w' : World} {a : Option Addr} {evs : List Ev} (h : EvRow w a evs) (M : Same w w') : EvRow w' a evs := ⟨fun hp => by
  obtain ⟨b, e, hb, hc⟩ := h.ex hp
  exact ⟨b, e, Nat.lt_of_lt_of_le hb M.size, fun j ev hj => by
    obtain ⟨vv, dv, h1, h2, h3⟩ := hc j ev hj
    exact ⟨vv, dv, h1.same M, h2.same M, fun i u hu => (M.cell hb (fun q => q) _).trans (h3 i u hu)⟩⟩⟩
theorem Mod.old {w w' : World} (M : Mod (fun i => w.heap.size ≤ i) w w') : Same w w' := M.mono (fun i hi q => by omega)
/-- What is behind a row of events: a model, or the place of the first that cannot be. -/
def TolR (k : Nat) (evs : List Ev) (w' : World) (e : Ending) : Prop := ∃ P f, Iso (emptyS k) P f ∧
  ((∃ t m K, RunR ⟨emptyS k, P, 1, []⟩ evs t ∧ e = .returned (.tuple #[bp m, .int .i64 (-1)]) ∧ Md Tryz.prog K w' m t.now ∧ Good t.now ∧ Wf t.now) ∨
   (∃ (j : Nat) (t : WS) (ev : Ev), RunR ⟨emptyS k, P, 1, []⟩ (evs.take j) t ∧ evs[j]? = some ev ∧ GoR t ev none ∧ e = .returned (.tuple #[.pointer none, .int .i64 (j : Int)])))
set_option maxHeartbeats 16000000 in
theorem told_run (w : World) (hL : LibT w) (evs : List Ev) (a : Option Addr) (n c : Nat) (hn : evs.length = n) (hr : EvRow w a evs) (k : Nat) (hk1 : 1 ≤ k) (hk8 : k ≤ 8) (sl : Int) (hnl : n ≤ 5000)
    (hE : ∀ P f, Iso (emptyS k) P f → ∀ (j : Nat) (t : WS) (ev : Ev), RunR ⟨emptyS k, P, 1, []⟩ (evs.take j) t → evs[j]? = some ev → EvOk t ev) :
    Calls Tryz.prog 11 #[.slice a n c, .int .i64 (k : Int), .int .i64 sl] w fun e w' => TolR k evs w' e ∧ Same w w' := by
  refine opq fun R HR => ?_
  have HL := Lib.hid hL
  have HRw := Lib.hid hr
  have HN := Lib.hid hn
  have HE := Lib.hid hE
  clear hL hr hn hE
  go_enter Tryz.func11, Tryz.ntmps11
  go_wp2_with fail
  refine (new_some (fun i => i < w.heap.size) w (fun i hi => hi) k hk1 hk8).mono ?_
  rintro e w1 ⟨m, rfl, hm, M⟩
  have HM := Lib.hid hm
  have N1 := Lib.hid (show Same w w1 from M)
  clear hm M
  unfold bp at *
  go_wp2_with fail
  obtain ⟨w2, hw2⟩ : ∃ z, w1.alloc (.cells #[.int .i64 sl, .int .i64 (k : Int), .pointer none, .bool false, .int .i64 0, .pointer none, .pointer none, .slice none 0 0] 97) = z := ⟨_, rfl⟩
  rw [hw2]
  have N2 := Lib.hid (show Same w1 w2 by rw [← hw2]; exact (Mod.refl _ _).alloc _)
  have HX2 := Lib.hid (show Blk w2 w1.heap.size #[.int .i64 sl, .int .i64 (k : Int), .pointer none, .bool false, .int .i64 0, .pointer none, .pointer none, .slice none 0 0] by rw [← hw2]; exact Blk.new w1 _ 97)
  have s12 : w1.heap.size < w2.heap.size := HX2.out.lt
  have s01 := N1.out.size
  have hge := good_emptyK hk1 hk8
  refine (anew_any _ _ _ _ _ _ _ _ HX2.out (HM.out.more N2.out) hge (wf_empty k) (.inr ⟨Nat.le_refl _, s12⟩) 1).mono ?_
  rintro e w3 ⟨mp, ma, P, f, rfl, hx3, hI, hW, hG, hp3, hn3, M3⟩
  have HI := Lib.hid hI
  have s23 := M3.size
  have W3 := Lib.hid (show Wt w.heap.size w3 w1.heap.size sl (k : Int) ⟨emptyS k, P, 1, []⟩ from ⟨⟨hge, wf_empty k, hG, hW, by show (0 : Int) ≤ 1; decide, by show (1 : Int) ≤ 1000; decide, (fun o h => by cases h), by simp⟩, m, mp, ma, .slice none 0 0, _, _, ⟨hx3, hn3, hp3, ⟨rfl, .inl ⟨rfl, rfl⟩⟩, (fun i hi => ⟨.inl (.inl hi), by omega⟩), ⟨.inl (.inr ⟨Nat.le_refl _, s12⟩), s12⟩, (fun g h => by cases h), (fun b hb => by
    by_cases q : b < w2.heap.size
    · exact .inr q
    · exact .inl (.inr ⟨by omega, hb⟩)), s01⟩⟩)
  have N3 := Lib.hid (show Same w w3 from (((N1.out.same N2.out).mono (fun _ _ q => q.elim)).then_ M3 (fun i _ q => by rw [q]; exact s01)).old)
  clear hI hW hG hx3 hp3 hn3 M3 hw2 HM HX2 hge
  go_wp2_with fail
  go_loopw [25] (fun i wr => ∃ (j : Nat) (t : WS), j ≤ n ∧ i = .int .i64 j ∧ RunR ⟨emptyS k, P, 1, []⟩ (evs.take j) t ∧ Wt w.heap.size wr w1.heap.size sl (k : Int) t ∧ Same w wr) (fun i _ => n - (intOf i).toNat)
  case atStart => exact ⟨0, _, Nat.zero_le _, rfl, rfl, W3.out, N3.out⟩
  case round =>
    obtain ⟨j, t, hj, rfl, hrun, hwt, hM⟩ := hrel
    have HRN := Lib.hid hrun
    have HWT := Lib.hid hwt
    have J := Lib.hid hM
    clear hrun hwt hM
    by_cases hlt : j < n
    · obtain ⟨ev, hev⟩ : ∃ ev, evs[j]? = some ev := ⟨_, List.getElem?_eq_getElem (by rw [HN.out]; exact hlt)⟩
      obtain ⟨b, rfl, hb, hcc⟩ := (HRw.out.same J.out).ex (by rw [HN.out]; omega)
      obtain ⟨vv, dv, h1, h2, h3⟩ := hcc j ev hev
      obtain ⟨a3, c3, rfl, -⟩ := h1.ex
      obtain ⟨a2, c2, rfl, -⟩ := h2.ex
      have HEV := Lib.hid hev
      have v0 := h3 0 (ordW ev.o) rfl
      have v1 := h3 1 (.int .i64 ev.er) rfl
      have v2 := h3 2 (.string ⟨ev.d.toArray⟩) rfl
      have v3 := h3 3 (.slice a3 ev.vols.length c3) rfl
      have v4 := h3 4 (.int .i64 ev.gen) rfl
      have v5 := h3 5 (.slice a2 ev.dump.length c2) rfl
      rw [Nat.add_zero] at v0
      have hsl : t.since.length ≤ 9999 := by
        have := HRN.out.since
        rw [List.length_take] at this
        have e : (⟨emptyS k, P, 1, []⟩ : WS).since.length = 0 := rfl
        omega
      have HG := Lib.hid (fun W (M : Same wr W) => goes_any (HWT.out.same M) (HL.out.same (J.out.same M)) ev (HE.out P f HI.out j t ev HRN.out hev) _ _ (h1.same M) (h2.same M) hsl)
      unfold evC at HG
      unfold ordW at v0 HG
      clear h1 h2 h3 hcc hev hsl
      generalize kT ev.o.k = U at *
      generalize Value.agg (ordC ev.o) = V at *
      go_wp2_with fail
      refine (HG.out _ ((Mod.refl _ _).alloc _)).mono ?_
      rintro e w5 ⟨r, rfl, hgo, hwt, M⟩
      have GO := Lib.hid hgo
      have WT := Lib.hid hwt
      have J5 := Lib.hid (show Same w w5 from (((J.out.alloc _).mono (fun _ _ q => q.elim)).then_ M (fun i _ q => q)).old)
      clear hgo hwt M
      cases r with
      | none =>
        rw [show (none : Option WS).isSome = false from rfl]
        go_wp2
        exact HR.out _ _ ⟨⟨P, f, HI.out, .inr ⟨j, t, ev, HRN.out, HEV.out, GO.out, rfl⟩⟩, J5.out⟩
      | some u =>
        rw [show (some u : Option WS).isSome = true from rfl]
        go_wp2_with fail
        go_roundw
        case rel => exact ⟨j + 1, u, by omega, by go_num, by
          rw [List.take_succ_eq_append_getElem (by rw [HN.out]; exact hlt), (List.getElem?_eq_some_iff.1 HEV.out).2]
          exact HRN.out.snoc GO.out, WT.out u rfl, J5.out⟩
        case measure => simp [intOf]; omega
    · obtain rfl : j = n := by omega
      obtain ⟨hO, mn, mp', ma', sv, Kn, Kp, hw⟩ := HWT.out
      have x2 := hw.blk.at_ (i := 2) _ rfl
      have HN' := Lib.hid (show Md Tryz.prog Kn wr mn t.now ∧ Good t.now ∧ Wf t.now from ⟨hw.now, hO.gn, hO.wn⟩)
      have HRN2 := Lib.hid (show RunR ⟨emptyS k, P, 1, []⟩ evs t by
        have := HRN.out
        rw [List.take_of_length_le (by rw [HN.out]; exact Nat.le_refl _)] at this
        exact this)
      unfold bp at x2
      clear hw hO
      go_wp2
      exact HR.out _ _ ⟨⟨P, f, HI.out, .inl ⟨t, mn, Kn, HRN2.out, rfl, HN'.out.1, HN'.out.2.1, HN'.out.2.2⟩⟩, J.out⟩
end Go.Proofs.YtlcepoagpocadaaGreatDoor
set_option maxRecDepth 100000
/- The place of the first event that cannot be; a sector of a byte. -/
namespace Go.Proofs.YtlcepoagpocadaaGreatDoor
open Go Go.RowKit
set_option maxHeartbeats 4000000 in
theorem sec_any (w : World) (b : Nat) (hb : b < 256) : Calls Tryz.prog 10 #[.int .u8 (b : Int)] w fun e w' => e = .returned (strV (List.replicate 16 (UInt8.ofNat b))) ∧ Same w w' := by
  refine opq fun R HR => ?_
  obtain ⟨w1, hmk, hrow, M⟩ : ∃ w', (Instr.makeSlice 22 (.int .i64 16) (.int .i64 16)).run Tryz.prog w = .ok (.slice (some ⟨w.heap.size, 0, none⟩) 16 16) w' ∧ RowV w' w.heap.size 16 (fun _ => .int .u8 0) ∧ Same w w' := make22 16 (by omega) (by omega) w
  have K1 := Lib.hid (hrow.congr (f' := fillF b 0) (fun i hi => rfl))
  have M1 := Lib.hid M
  have hbw : IntKind.u8.wrap (b : Int) = b := by unfold IntKind.wrap; simp [IntKind.signed, IntKind.bits]; omega
  clear hrow M
  go_enter Tryz.func10, Tryz.ntmps10
  go_wp2_with fail
  go_loopw [4] (fun i wr => ∃ j : Nat, j ≤ 16 ∧ i = .int .i64 j ∧ RowV wr w.heap.size 16 (fillF b j) ∧ Same w wr) (fun i _ => 16 - (intOf i).toNat)
  case atStart => exact ⟨0, by omega, rfl, K1.out, M1.out⟩
  case round =>
    obtain ⟨j, hj, rfl, hro, hM⟩ := hrel
    have K := Lib.hid hro
    have J := Lib.hid hM
    have hl := hro.lt
    clear hro hM
    by_cases hlt : j < 16
    · have fr := fun i => K.out.free i
      have cj := K.out.cell j hlt
      go_wp2_with fail
      go_roundw
      case rel =>
        refine ⟨j + 1, by omega, by go_num, (K.out.set j hlt (.int .u8 (b : Int))).congr (fun i hi => ?_), J.out.setCell (p := ⟨w.heap.size, j, none⟩) (fun q => by simp at q) _⟩
        unfold upd fillF
        by_cases q : i = j
        · rw [if_pos q, if_pos (by omega)]
        · rw [if_neg q]
          by_cases r : i < j
          · rw [if_pos r, if_pos (by omega)]
          · rw [if_neg r, if_neg (by omega)]
      case measure => simp [intOf]; omega
    · obtain rfl : j = 16 := by omega
      have hcv := conv22 16 w.heap.size b hb wr (K.out.congr (fun i hi => by unfold fillF; rw [if_pos hi]))
      go_wp2
      exact HR.out _ _ ⟨rfl, J.out⟩
/-- The place of the first event that cannot be. -/
def WroR (k : Nat) (evs : List Ev) (e : Ending) : Prop := ∃ P f, Iso (emptyS k) P f ∧
  ((∃ t, RunR ⟨emptyS k, P, 1, []⟩ evs t ∧ e = .returned (.int .i64 (-1))) ∨
   (∃ (j : Nat) (t : WS) (ev : Ev), RunR ⟨emptyS k, P, 1, []⟩ (evs.take j) t ∧ evs[j]? = some ev ∧ GoR t ev none ∧ e = .returned (.int .i64 (j : Int))))
theorem wrong_run (w : World) (hL : LibT w) (evs : List Ev) (a : Option Addr) (n c : Nat) (hn : evs.length = n) (hr : EvRow w a evs) (k : Nat) (hk1 : 1 ≤ k) (hk8 : k ≤ 8) (sl : Int) (hnl : n ≤ 5000)
    (hE : ∀ P f, Iso (emptyS k) P f → ∀ (j : Nat) (t : WS) (ev : Ev), RunR ⟨emptyS k, P, 1, []⟩ (evs.take j) t → evs[j]? = some ev → EvOk t ev) :
    Calls Tryz.prog 13 #[.slice a n c, .int .i64 (k : Int), .int .i64 sl] w fun e w' => WroR k evs e ∧ Same w w' := by
  refine opq fun R HR => ?_
  have H := Lib.hid (told_run w hL evs a n c hn hr k hk1 hk8 sl hnl hE)
  clear hL hn hr hE
  go_enter Tryz.func13, Tryz.ntmps13
  go_wp2_with fail
  refine H.out.mono ?_
  rintro e w1 ⟨⟨P, f, hI, hc⟩, M⟩
  have N := Lib.hid M
  have HI := Lib.hid hI
  clear M hI
  rcases hc with ⟨t, m, K, hr, rfl, -, -, -⟩ | ⟨j, t, ev, h1, h2, h3, rfl⟩
  · have HC := Lib.hid hr
    clear hr
    go_wp2
    exact HR.out _ _ ⟨⟨P, f, HI.out, .inl ⟨t, HC.out, rfl⟩⟩, N.out⟩
  · have HC := Lib.hid (show RunR ⟨emptyS k, P, 1, []⟩ (evs.take j) t ∧ evs[j]? = some ev ∧ GoR t ev none from ⟨h1, h2, h3⟩)
    clear h1 h2 h3
    go_wp2
    exact HR.out _ _ ⟨⟨P, f, HI.out, .inr ⟨j, t, ev, HC.out.1, HC.out.2.1, HC.out.2.2, rfl⟩⟩, N.out⟩
theorem wrong_zero (w : World) (a : Option Addr) (n c : Nat) (sl : Int) :
    Calls Tryz.prog 13 #[.slice a n c, .int .i64 0, .int .i64 sl] w fun e w' => e = .returned (.int .i64 0) ∧ Same w w' := by
  refine opq fun R HR => ?_
  go_enter Tryz.func13, Tryz.ntmps13
  go_wp2_with (first | go_in)
  exact HR.out _ _ ⟨rfl, Mod.refl _ _⟩
end Go.Proofs.YtlcepoagpocadaaGreatDoor
