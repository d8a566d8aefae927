import Derived.Test.YtjkndfenniongaaGreatDoorAtM
import Derived.Maps.RangeWalk
import Derived.Maps.StringElems
set_option linter.unusedSimpArgs false
set_option linter.unusedVariables false
set_option maxRecDepth 100000
/- A device is flushed. -/
namespace Go.Proofs.YtjkndfenniongaaGreatDoor
open Go Go.RowKit Go.Maps Go.ChangeMaps Go.MapKept
theorem grown_set (W : World) (b i : Nat) (v : Value) : W.grownBy (W.setCell ⟨b, i, none⟩ v) (some b) :=
  have M := (Mod.refl (fun k => k = b) W).setCell (p := ⟨b, i, none⟩) (fun _ => rfl) v
  ⟨M.os, M.tape, M.output, M.size, fun k hk hne => M.block k hk (fun q => hne (by rw [q]))⟩
def k0 : Lit := .int .i64 0
def k1 : Lit := .int .i64 1
theorem D2_at (a b : List UInt8) (x : Int) (zd : DataW Unit) : (D2 a b).atKey (.int .i64 x) zd = if x = 0 then sd a else if x = 1 then sd b else zd := by
  rw [D2_eq]
  by_cases h0 : x = 0
  · subst h0; rfl
  · by_cases h1 : x = 1
    · subst h1; rfl
    · rw [if_neg h0, if_neg h1]
      have e0 : (Lit.int .i64 0).sameKey (.int .i64 x) = false := by
        simp [Lit.sameKey]; exact fun q => h0 q.symm
      have e1 : (Lit.int .i64 1).sameKey (.int .i64 x) = false := by
        simp [Lit.sameKey]; exact fun q => h1 q.symm
      unfold DataW.atKey
      dsimp only
      rw [List.find?_cons_of_neg (by simpa using e0), List.find?_cons_of_neg (by simpa using e1), List.find?_nil]
theorem D2_which {a b : List UInt8} {x : Int} {c : ByteArray} (h : ∀ zd, (D2 a b).atKey (.int .i64 x) zd = .lit (.string c.data.toList)) : (x = 0 ∧ Value.string c = strV a) ∨ (x = 1 ∧ Value.string c = strV b) := by
  have hb : ∀ l : List UInt8, c.data.toList = l → Value.string c = strV l := by
    rintro l rfl
    unfold strV; cases c; simp
  by_cases h0 : x = 0
  · left
    have := h (.map [])
    rw [D2_at, if_pos h0] at this
    unfold sd at this
    injection this with this
    injection this with this
    exact ⟨h0, hb _ this.symm⟩
  · by_cases h1 : x = 1
    · right
      have := h (.map [])
      rw [D2_at, if_neg h0, if_pos h1] at this
      unfold sd at this
      injection this with this
      injection this with this
      exact ⟨h1, hb _ this.symm⟩
    · have := h (.map [])
      rw [D2_at, if_neg h0, if_neg h1] at this
      cases this
/-- The safe sectors while some are still to come. -/
def cur (S : List (List UInt8)) (a b : List UInt8) (left : Lit → Bool) (i : Nat) : Value := if i = 0 then (cond (left k0) (strV (S.getD 0 [])) (strV a)) else if i = 1 then (cond (left k1) (strV (S.getD 1 [])) (strV b)) else strV (S.getD i [])
theorem cur_zero (S : List (List UInt8)) (a b : List UInt8) (left : Lit → Bool) (i : Nat) : upd (cur S a b left) 0 (strV a) i = cur S a b (fun z => left z && !z.sameKey k0) i := by
  unfold upd cur
  dsimp only
  by_cases h : i = 0
  · subst h
    rw [if_pos rfl, if_pos rfl, show (k0).sameKey k0 = true from rfl]; simp
  · rw [if_neg h, if_neg h, if_neg h, show (k1).sameKey k0 = false from rfl]; simp
theorem cur_one (S : List (List UInt8)) (a b : List UInt8) (left : Lit → Bool) (i : Nat) : upd (cur S a b left) 1 (strV b) i = cur S a b (fun z => left z && !z.sameKey k1) i := by
  unfold upd cur
  dsimp only
  by_cases h : i = 0
  · subst h
    rw [if_neg (by decide), if_pos rfl, if_pos rfl, show (k0).sameKey k1 = false from rfl]; simp
  · rw [if_neg h, if_neg h]
    by_cases h1 : i = 1
    · subst h1
      rw [if_pos rfl, if_pos rfl, show (k1).sameKey k1 = true from rfl]; simp
    · rw [if_neg h1, if_neg h1, if_neg h1]
theorem cur_start (S : List (List UInt8)) (a b : List UInt8) (i : Nat) : strV (S.getD i []) = cur S a b (Maps.has (D2 a b)) i := by
  unfold cur
  rw [D2_eq, show Maps.has (DataW.map [(Lit.int .i64 0, sd a), (.int .i64 1, sd b)]) k0 = true from rfl, show Maps.has (DataW.map [(Lit.int .i64 0, sd a), (.int .i64 1, sd b)]) k1 = true from rfl]
  by_cases h : i = 0
  · subst h; simp
  · by_cases h1 : i = 1
    · subst h1; simp
    · simp [h, h1]
theorem cur_end (S : List (List UInt8)) (hS : 2 ≤ S.length) (a b : List UInt8) (left : Lit → Bool) (hl : ∀ k, left k = false) (i : Nat) : cur S a b left i = strV (((S.set 0 a).set 1 b).getD i []) := by
  unfold cur
  rw [hl, hl]
  match S, hS with
  | x :: y :: S, _ =>
    match i with
    | 0 => rfl
    | 1 => rfl
    | i + 2 => simp
theorem clear_run {H : Type} {P : Program} {k e : TypeId} {R : Value → Option (DataW H × List MemPlace)} {w : World} {b n : Nat} {D : DataW H} (h : w.ownsMap P k R b n D) (t : TypeId) (ht : P.underlying t = some (.map k e)) :
    ∃ w', (∀ ty, (Builtin.clear_ #[t] ty #[.map (some b)]).run P w = .ok (.tuple #[]) w') ∧ w'.ownsMap P k R b 0 (.map []) ∧ w.grownBy w' (some b) := by
  obtain ⟨es, clock, hb, F, hs, hD⟩ := h
  refine ⟨setBlock w b (.map #[] clock), fun ty => ?_, ⟨#[], clock, heap_setBlock_same hb _, ⟨by simp, stamped_empty clock, by simp⟩, Nat.le_refl _, rfl⟩, ⟨rfl, rfl, rfl, by simp [setBlock], fun i _ hi => heap_setBlock_other hb _ (fun e => hi (by rw [e]))⟩⟩
  simp [Builtin.clear_, run_underlying ht, MapKept.run_getObj_map hb, MapKept.run_setObj_map _ hb, Result.andThen, setBlock]
set_option maxHeartbeats 8000000 in
theorem flush_any {B : Nat} {w : World} {d m lb : Nat} {u : Int} (hu : 0 ≤ u ∧ u ≤ 1000000) {S : List (List UInt8)} (a b : List UInt8) (h : Dev B w d m lb u S (D2 a b)) (hS : 2 ≤ S.length) :
    Calls Tryz.prog 31 #[bp d] w fun e w' => e = .returned (.int .i64 0) ∧ Dev B w' d m lb (u + 1) ((S.set 0 a).set 1 b) (.map []) ∧ ∃ g, (∃ c, w.cell? ⟨d, 1, none⟩ = some (.slice (some ⟨g, 0, none⟩) S.length c)) ∧ Mod (fun i => i = m ∨ i = lb ∨ i = g) w w' := by
  refine opq fun R HR => ?_
  have hBw : B ≤ w.heap.size := Nat.le_trans h.hm (Nat.le_of_lt h.main.lt)
  obtain ⟨a0, c0, hbd, _⟩ := h.disc
  have e0 := hbd.at_ (i := 0) _ rfl
  have hdlw := hbd.lt
  have HD := Lib.hid h
  have HU := Lib.hid (use_any m u (by omega) w h.main)
  clear h hbd
  go_enter Tryz.func31, Tryz.ntmps31
  go_wp2_with fail
  refine HU.out.mono ?_
  rintro e w1 ⟨rfl, hbm, M⟩
  have K1 := Lib.hid (HD.out.used hbm M)
  have N1' := M
  have hcd : w1.cell? ⟨d, 1, none⟩ = w.cell? ⟨d, 1, none⟩ := M.cell hdlw HD.out.ne 1
  clear hbm M HD HU e0
  obtain ⟨a1, c1, hbd, hsf⟩ := K1.out.disc
  obtain ⟨g, rfl, hgB, hgd, hgm, hrow⟩ := hsf (by omega)
  obtain ⟨n1, n2, n3⟩ := K1.out.ne_map
  have ngl := n3 g _ _ (show 0 < S.length by omega) hrow
  have e2 := hbd.at_ (i := 2) _ rfl
  have hcw := Lib.hid (hcd.symm.trans (hbd.at_ (i := 1) _ rfl))
  have N1 := Lib.hid (show Mod (fun i => i = m ∨ i = lb ∨ i = g) w w1 from N1'.mono (fun i _ q => .inl q))
  clear hcd N1' hdlw
  have hdlt := hbd.lt
  have hmlt := K1.out.main.lt
  have hglt := hrow.lt
  have LO := Lib.hid K1.out.loose
  have BD := Lib.hid hbd
  have RW := Lib.hid hrow
  clear hbd hrow hsf n3
  go_wp2_with (first | (at_range; refine wpList_range_own _ rfl (.tmp 19) 111 rfl 3 9 law3 Tryz.underlying111 (plainElem Tryz.prog 9) lb 100000 (D2 a b) rfl LO.out ?_; intro w0 hrg0 hg0 hs0) | fail)
  go_frame
  have hgm0 : Mod (fun _ => False) w1 w0 := (Mod.refl _ _).grown hg0 (fun k hk => by cases hk)
  have B0 := Lib.hid (BD.out.mod hgm0 (fun q => q))
  have P0 := Lib.hid (K1.out.main.mod hgm0 (fun q => q))
  have W0 := Lib.hid ((RW.out.mod hgm0 (fun q => q)).congr (fun i _ => cur_start S a b i))
  have N0 := Lib.hid (N1.out.same hgm0)
  have hr1 : d < w1.heap.size ∧ m < w1.heap.size ∧ g < w1.heap.size := ⟨hdlt, hmlt, hglt⟩
  have hB1 : B ≤ w1.heap.size := Nat.le_trans hBw N1.out.size
  have hwr1 : w.heap.size ≤ w1.heap.size := N1.out.size
  have RG0 := Lib.hid hrg0
  clear hgm0 BD RW LO hrg0 hg0 e2 hdlt hmlt hglt N1 hs0
  generalize w1.heap.size = r at *
  go_loopw [4, 5] (fun _ _ wr => ∃ left cnt, wr.ranges Tryz.prog 3 (plainElem (H := Unit) Tryz.prog 9) lb r 100000 (D2 a b) left cnt ∧ Blk wr d #[bp m, .slice (some ⟨g, 0, none⟩) S.length c1, .map (some lb)] ∧ Blk wr m (mcells (u + 1)) ∧ RowV wr g S.length (cur S a b left) ∧ Mod (fun i => i = m ∨ i = lb ∨ i = g) w wr) (fun _ _ wr => wr.rangeLeft lb r)
  case atStart => exact ⟨_, _, RG0.out, B0.out, P0.out, W0.out, N0.out⟩
  case round =>
    obtain ⟨left, cnt, hrg, hb1, hp1, hw1, hn1⟩ := hrel
    have B1 := Lib.hid hb1
    have P1 := Lib.hid hp1
    have W1 := Lib.hid hw1
    have N1 := Lib.hid hn1
    have RGo := Lib.hid hrg
    clear hb1 hp1 hw1 hn1 RG0 B0 P0 W0 N0
    go_wp2_with (first
      | (at_next; refine wpList_next_ranges _ rfl (.tmp 20) rfl 3 law3 (plainElem (H := Unit) Tryz.prog 9) (Value.int .i64) Value.string (fun key kl hk => by obtain ⟨x, rfl, _⟩ := Maps.keyOf_int_inv Tryz.underlying3 hk; exact ⟨x, rfl⟩) (fun v y hv => by obtain ⟨c, rfl, _⟩ := plainElem_string_inv Tryz.underlying9 hv; exact ⟨c, rfl⟩) lb r 100000 (D2 a b) left cnt rfl RGo.out ?_ ?_)
      | fail)
    · intro _ hl0
      have e2 := B1.out.at_ (i := 2) _ rfl
      obtain ⟨w2, hrun, hown, hgw⟩ := clear_run RGo.out.owns 111 Tryz.underlying111
      have M : Mod (fun i => i = lb) wr w2 := (Mod.refl _ _).grown hgw (fun k hk _ => by cases hk; rfl)
      have hS2 : ((S.set 0 a).set 1 b).length = S.length := by simp
      have hKl := K1.out.hlb
      have HF := Lib.hid (show Dev B w2 d m lb (u + 1) ((S.set 0 a).set 1 b) (.map []) from ⟨K1.out.hd, K1.out.hm, hKl, P1.out.mod M (fun q => n2 q), ⟨some ⟨g, 0, none⟩, c1, by rw [hS2]; exact B1.out.mod M (fun q => n1 q), fun _ => ⟨g, rfl, hgB, hgd, hgm, by rw [hS2]; exact (W1.out.mod M (fun q => ngl q)).congr (fun i _ => cur_end S hS a b left hl0 i)⟩⟩, K1.out.ne, hown.mono (by omega), by rw [hS2]; exact K1.out.len⟩)
      have NF := Lib.hid (N1.out.then_ M (fun i _ q => .inr (.inl q)))
      clear hown hgw M B1 P1 W1 N1 RGo K1
      go_wp2
      exact HR.out _ _ ⟨rfl, HF.out, g, ⟨c1, hcw.out⟩, NF.out⟩
    · intro x c kl y1 y2 w2 cnt1 hkey hlx hR hat hrg1 hlt hg1 hs1 hen
      obtain ⟨x', hx', rfl, _⟩ := Maps.keyOf_int_inv Tryz.underlying3 hkey
      injection hx' with _ hx'
      subst hx'
      obtain ⟨c', hc', hy, _⟩ := plainElem_string_inv Tryz.underlying9 hR
      injection hc' with hc'
      subst hc'
      injection hy with hy1 _
      have hwh := D2_which (a := a) (b := b) (x := x) (c := c) (fun zd => by rw [hat zd]; exact hy1)
      have M := (Mod.refl (fun i => i = r) wr).grown hg1 (fun k hk _ => by cases hk; rfl)
      have B2' := B1.out.mod M (fun q => by omega)
      have P2' := P1.out.mod M (fun q => by omega)
      have W2' := W1.out.mod M (fun q => by omega)
      have N2 := Lib.hid (N1.out.then_ M (fun i hi q => by omega))
      clear B1 P1 W1 N1 M hR hy1 hat hkey hg1
      have B1 := Lib.hid B2'
      have P1 := Lib.hid P2'
      have W1 := Lib.hid W2'
      clear B2' P2' W2'
      rcases hwh with ⟨rfl, hc⟩ | ⟨rfl, hc⟩
      all_goals (rw [hc] at *)
      · have e3 := W1.out.cell 0 (by omega)
        have f3 := W1.out.free 0
        have e4 := B1.out.at_ (i := 1) _ rfl
        have W2 := Lib.hid ((W1.out.set 0 (by omega) (strV a)).congr (fun i _ => cur_zero S a b left i))
        have B2 := Lib.hid (B1.out.set_far (p := ⟨g, 0, none⟩) (show g ≠ d from hgd) (strV a))
        have P2 := Lib.hid (P1.out.set_far (p := ⟨g, 0, none⟩) (show g ≠ m from hgm) (strV a))
        have N3 := Lib.hid (N2.out.setCell (p := ⟨g, 0, none⟩) (fun _ => .inr (.inr rfl)) (strV a))
        have hrg2 := hrg1.kept (grown_set w2 g 0 (strV a)) (fun e => ngl (by cases e; rfl)) (fun e => by cases e; omega)
        have RG := Lib.hid hrg2
        clear W1 B1 P1 N2
        unfold strV at *
        go_wp2_with fail
        go_roundw
        case rel => exact ⟨_, cnt1, RG.out, B2.out, P2.out, W2.out, N3.out⟩
        case measure => rw [RG.out.left_eq, hrg.left_eq]; exact hlt
      · have e3 := W1.out.cell 1 (by omega)
        have f3 := W1.out.free 1
        have e4 := B1.out.at_ (i := 1) _ rfl
        have W2 := Lib.hid ((W1.out.set 1 (by omega) (strV b)).congr (fun i _ => cur_one S a b left i))
        have B2 := Lib.hid (B1.out.set_far (p := ⟨g, 1, none⟩) (show g ≠ d from hgd) (strV b))
        have P2 := Lib.hid (P1.out.set_far (p := ⟨g, 1, none⟩) (show g ≠ m from hgm) (strV b))
        have N3 := Lib.hid (N2.out.setCell (p := ⟨g, 1, none⟩) (fun _ => .inr (.inr rfl)) (strV b))
        have hrg2 := hrg1.kept (grown_set w2 g 1 (strV b)) (fun e => ngl (by cases e; rfl)) (fun e => by cases e; omega)
        have RG := Lib.hid hrg2
        clear W1 B1 P1 N2
        unfold strV at *
        go_wp2_with fail
        go_roundw
        case rel => exact ⟨_, cnt1, RG.out, B2.out, P2.out, W2.out, N3.out⟩
        case measure => rw [RG.out.left_eq, hrg.left_eq]; exact hlt
end Go.Proofs.YtjkndfenniongaaGreatDoor
